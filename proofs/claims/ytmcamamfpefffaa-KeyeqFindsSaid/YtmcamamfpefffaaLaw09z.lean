/- KeyeqFinds, walked. -/
import Derived.Test.YtmcamamfpefffaaLaw09u
namespace Go.Proofs.Ytmcamamfpefffaa
open Go.RowKit
set_option linter.unusedVariables false
set_option linter.unusedSimpArgs false
theorem full_of {pts kn : List F} (h1 : Unl pts kn pts.length) (h2 : Unl kn [] kn.length) : Full (norm (pmul (locN pts pts.length) (locN kn kn.length))) (pts ++ kn) := by
  obtain ⟨a1, a2, a3⟩ := locN_spec pts pts.length
  obtain ⟨b1, b2, b3⟩ := locN_spec kn kn.length
  have hlen : (norm (pmul (locN pts pts.length) (locN kn kn.length))).length = pts.length + kn.length + 1 := by
    have := length_norm_mul (p := locN pts pts.length) (q := locN kn kn.length) (by rw [a2]; intro h; rw [h] at a1; simp at a1) (by rw [b2]; intro h; rw [h] at b1; simp at b1)
    rw [a2, b2, a1, b1] at this
    omega
  refine ⟨List.nodup_append.2 ⟨h1.nodup, h2.nodup, fun x hx y hy => h1.apart x hx y hy⟩, by rw [hlen, List.length_append], ?_, fun x hx => ?_⟩
  · rw [List.length_append, ← at_cf, cf_norm, cf_pmul, top_mul pts.length (lim_list (by omega)) (lim_list (by omega)), at_cf, at_cf, a3, b3, F.one_mul]
    exact F.one_ne_zero
  · rw [eval_norm, eval_pmul, F.mul_eq_zero]
    rcases List.mem_append.1 hx with h | h
    · obtain ⟨j, hj, hxj⟩ := List.getElem_of_mem h
      exact .inl ((locN_root pts x pts.length).2 ⟨j, hj, by rw [List.getD_eq_getElem?_getD, List.getElem?_eq_getElem hj]; exact hxj⟩)
    · obtain ⟨j, hj, hxj⟩ := List.getElem_of_mem h
      exact .inr ((locN_root kn x kn.length).2 ⟨j, hj, by rw [List.getD_eq_getElem?_getD, List.getElem?_eq_getElem hj]; exact hxj⟩)
/-- what stands at a point -/
def AtP (o d : List F) (x y : F) : Prop := ∃ q : F, q ≠ 0 ∧ eval o x = y * q ∧ eval d x = q
theorem at_points {m : Nat} {pts kn by' an : List F} (h1 : Unl pts kn pts.length) (h2 : Unl kn [] kn.length) (hb : by'.length = pts.length) (hnz : ∀ j, j < pts.length → by'.getD j 0 ≠ 0) (hm : 2 * pts.length + kn.length ≤ m) :
    ∃ o, KeyCase (synN m (pts ++ kn) (by' ++ an)) (locN kn kn.length) (locN pts pts.length) o 0 ∧ o.length ≤ 100000 + 2 * (m + pts.length + kn.length) ∧
      (∀ i, i < pts.length → AtP o (norm (derivL (norm (pmul (locN pts pts.length) (locN kn kn.length))))) (pts.getD i 0) (by'.getD i 0)) ∧
      (∀ i, i < kn.length → AtP o (norm (derivL (norm (pmul (locN pts pts.length) (locN kn kn.length))))) (kn.getD i 0) (an.getD i 0)) := by
  have hf := full_of h1 h2
  obtain ⟨k1, k2⟩ := finds (an := an) hf hb hnz hm
  have key : ∀ j, j < (pts ++ kn).length → AtP ((norm (pmul (locN pts pts.length) (keyP (synN m (pts ++ kn) (by' ++ an)) (locN kn kn.length)))).drop m) (norm (derivL (norm (pmul (locN pts pts.length) (locN kn kn.length))))) ((pts ++ kn).getD j 0) ((by' ++ an).getD j 0) := fun j hj =>
    ⟨_, hf.self (getD_mem hj), by rw [eval_congr k2]; exact hf.over _ hj, by rw [eval_norm]; exact hf.deriv (getD_mem hj)⟩
  refine ⟨_, k1, ?_, fun i hi => ?_, fun i hi => ?_⟩
  · have q1 := length_norm_le (pmul (locN pts pts.length) (keyP (synN m (pts ++ kn) (by' ++ an)) (locN kn kn.length)))
    have q2 := length_pmul_le' (locN pts pts.length) (keyP (synN m (pts ++ kn) (by' ++ an)) (locN kn kn.length))
    have q3 := length_keyP (synN m (pts ++ kn) (by' ++ an)) (locN kn kn.length)
    have q4 := length_norm_le (locN kn kn.length)
    rw [length_locN] at q2 q4
    rw [length_synN] at q3
    rw [List.length_drop]
    omega
  · have := key i (by rw [List.length_append]; omega)
    rw [List.getD_eq_getElem?_getD, List.getElem?_append_left hi, ← List.getD_eq_getElem?_getD, List.getD_eq_getElem?_getD (l := by' ++ an), List.getElem?_append_left (by omega), ← List.getD_eq_getElem?_getD] at this
    exact this
  · have := key (pts.length + i) (by rw [List.length_append]; omega)
    rw [List.getD_eq_getElem?_getD, List.getElem?_append_right (by omega), ← List.getD_eq_getElem?_getD, List.getD_eq_getElem?_getD (l := by' ++ an), List.getElem?_append_right (by omega), ← List.getD_eq_getElem?_getD, hb, Nat.add_sub_cancel_left] at this
    exact this
theorem unlike_true (A1 : Option Addr) (c1 : Nat) (a : List F) (A2 : Option Addr) (c2 : Nat) (b : List F) (w : World) (h : Unl a b a.length) (ha : Bs w A1 c1 a) (hb : Bs w A2 c2 b) (h1 : a.length ≤ 1000) (h2 : b.length ≤ 1000) :
    Calls Try.prog 21 #[.slice A1 a.length c1, .slice A2 b.length c2] w fun e w' => e = .returned (.bool true) ∧ Below w.heap.size w w' :=
  (unlike_any A1 c1 a A2 c2 b w ha hb h1 h2).mono fun e w' ⟨v, he, hv, hb⟩ => ⟨by rw [he, hv.2 h], hb⟩
theorem unlike_false (A1 : Option Addr) (c1 : Nat) (a : List F) (A2 : Option Addr) (c2 : Nat) (b : List F) (w : World) (h : ¬ Unl a b a.length) (ha : Bs w A1 c1 a) (hb : Bs w A2 c2 b) (h1 : a.length ≤ 1000) (h2 : b.length ≤ 1000) :
    Calls Try.prog 21 #[.slice A1 a.length c1, .slice A2 b.length c2] w fun e w' => e = .returned (.bool false) ∧ Below w.heap.size w w' :=
  (unlike_any A1 c1 a A2 c2 b w ha hb h1 h2).mono fun e w' ⟨v, he, hv, hb⟩ => ⟨by cases v with | true => exact absurd (hv.1 rfl) h | false => exact he, hb⟩
structure Zk (W : World) (A1 : Option Addr) (c1 : Nat) (pts : List F) (A2 : Option Addr) (c2 : Nat) (by' : List F) (A3 : Option Addr) (c3 : Nat) (kn : List F) (A4 : Option Addr) (c4 : Nat) (an : List F) : Prop where
  p : Bs W A1 c1 pts
  y : Bs W A2 c2 by'
  q : Bs W A3 c3 kn
  n : Bs W A4 c4 an
theorem Zk.below {W W' : World} {A1 : Option Addr} {c1 : Nat} {pts : List F} {A2 : Option Addr} {c2 : Nat} {by' : List F} {A3 : Option Addr} {c3 : Nat} {kn : List F} {A4 : Option Addr} {c4 : Nat} {an : List F} (h : Zk W A1 c1 pts A2 c2 by' A3 c3 kn A4 c4 an) (hb : Below W.heap.size W W') : Zk W' A1 c1 pts A2 c2 by' A3 c3 kn A4 c4 an :=
  ⟨Sl.below h.p hb, Sl.below h.y hb, Sl.below h.q hb, Sl.below h.n hb⟩
set_option maxRecDepth 100000 in
set_option maxHeartbeats 8000000 in
theorem finds_main {w : World} (n E mm : Nat) (A1 : Option Addr) (c1 : Nat) (pts : List F) (A2 : Option Addr) (c2 : Nat) (by' : List F) (A3 : Option Addr) (c3 : Nat) (kn : List F) (A4 : Option Addr) (c4 : Nat) (an : List F) (hn : pts.length = n) (hE : kn.length = E) (hy : by'.length = n) (ha : an.length = E)
    (r1 : Bs w A1 c1 pts) (r2 : Bs w A2 c2 by') (r3 : Bs w A3 c3 kn) (r4 : Bs w A4 c4 an) (u1 : Unl pts kn pts.length) (u2 : Unl kn [] kn.length) (hm : mm ≤ 60) (h2 : n ≤ 30) (h3 : E ≤ 60) (h6 : 2 * n + E ≤ mm) :
    Calls Try.prog 9 #[.int .i64 mm, .slice A1 n c1, .slice A2 n c2, .slice A3 E c3, .slice A4 E c4] w fun e w' => e = .returned (.bool true) ∧ Below w.heap.size w w' := by
  have LN := Lib.hid hn
  have LE := Lib.hid hE
  have LY := Lib.hid hy
  have LA := Lib.hid ha
  have e0 : ¬ (mm : Int) < 0 := by omega
  have e1 : ¬ (60 : Int) < (mm : Int) := by omega
  have e2 : ¬ (30 : Int) < (n : Int) := by omega
  have e3 : ¬ (60 : Int) < (E : Int) := by omega
  have e4 : ((n : Int) != (n : Int)) = false := by rw [bne_self_eq_false]
  have e5 : ((E : Int) != (E : Int)) = false := by rw [bne_self_eq_false]
  have e6 : ¬ (mm : Int) < 2 * (n : Int) + (E : Int) := by omega
  clear hn hE hy ha
  have U1 : Hid (∀ (A c A' c' : _) (w : World), Bs w A c pts → Bs w A' c' kn → Calls Try.prog 21 #[.slice A n c, .slice A' E c'] w fun e w' => e = .returned (.bool true) ∧ Below w.heap.size w w') := fun A c A' c' w h h' => by
    have := unlike_true A c pts A' c' kn w u1 h h' (by rw [LN.out]; omega) (by rw [LE.out]; omega)
    rwa [LN.out, LE.out] at this
  have U2 : Hid (∀ (A c A' c' : _) (w : World), Bs w A c kn → Bs w A' c' [] → Calls Try.prog 21 #[.slice A E c, .slice A' 0 c'] w fun e w' => e = .returned (.bool true) ∧ Below w.heap.size w w') := fun A c A' c' w h h' => by
    have := unlike_true A c kn A' c' [] w u2 h h' (by rw [LE.out]; omega) (by simp)
    rwa [LE.out, List.length_nil] at this
  have V1 := Lib.hid u1
  have V2 := Lib.hid u2
  clear u1 u2
  have P0 := Lib.hid r1
  have Y0 := Lib.hid r2
  have Q0 := Lib.hid r3
  have N0 := Lib.hid r4
  have W := Lib.hid (Since.refl w)
  clear r1 r2 r3 r4
  go_enter Try.func9, Try.ntmps9
  go_wp2_with (first
    | (go_at_call 10; (with_reducible refine (awake9 _).mono ?_); rintro e W1 ⟨rfl, hb⟩; have hbel : Below _ _ W1 := hb; (first | have P0 := Lib.hid (Sl.below P0.out hbel) | have P0 := Lib.hid (Sl.below (P0.out.alloc _) hbel) | have P0 := Lib.hid (Sl.below ((P0.out.alloc _).alloc _) hbel) | have P0 := Lib.hid (Sl.below (((P0.out.alloc _).alloc _).alloc _) hbel) | skip); (first | have Y0 := Lib.hid (Sl.below Y0.out hbel) | have Y0 := Lib.hid (Sl.below (Y0.out.alloc _) hbel) | have Y0 := Lib.hid (Sl.below ((Y0.out.alloc _).alloc _) hbel) | have Y0 := Lib.hid (Sl.below (((Y0.out.alloc _).alloc _).alloc _) hbel) | skip); (first | have Q0 := Lib.hid (Sl.below Q0.out hbel) | have Q0 := Lib.hid (Sl.below (Q0.out.alloc _) hbel) | have Q0 := Lib.hid (Sl.below ((Q0.out.alloc _).alloc _) hbel) | have Q0 := Lib.hid (Sl.below (((Q0.out.alloc _).alloc _).alloc _) hbel) | skip); (first | have N0 := Lib.hid (Sl.below N0.out hbel) | have N0 := Lib.hid (Sl.below (N0.out.alloc _) hbel) | have N0 := Lib.hid (Sl.below ((N0.out.alloc _).alloc _) hbel) | have N0 := Lib.hid (Sl.below (((N0.out.alloc _).alloc _).alloc _) hbel) | skip); (first | have W := Lib.hid (Since.below W.out hbel) | have W := Lib.hid (Since.below (W.out.alloc _) hbel) | have W := Lib.hid (Since.below ((W.out.alloc _).alloc _) hbel) | have W := Lib.hid (Since.below (((W.out.alloc _).alloc _).alloc _) hbel) | skip); (first | have G := Lib.hid (GfAt.below G.out hbel) | have G := Lib.hid (GfAt.below (G.out.alloc _) hbel) | have G := Lib.hid (GfAt.below ((G.out.alloc _).alloc _) hbel) | have G := Lib.hid (GfAt.below (((G.out.alloc _).alloc _).alloc _) hbel) | skip); clear hbel)
    | (go_at_call 11; (with_reducible refine (new_any _).mono ?_); rintro e W2 ⟨rfl, hb, hg⟩; have hbel : Below _ _ W2 := hb; (first | have P0 := Lib.hid (Sl.below P0.out hbel) | have P0 := Lib.hid (Sl.below (P0.out.alloc _) hbel) | have P0 := Lib.hid (Sl.below ((P0.out.alloc _).alloc _) hbel) | have P0 := Lib.hid (Sl.below (((P0.out.alloc _).alloc _).alloc _) hbel) | skip); (first | have Y0 := Lib.hid (Sl.below Y0.out hbel) | have Y0 := Lib.hid (Sl.below (Y0.out.alloc _) hbel) | have Y0 := Lib.hid (Sl.below ((Y0.out.alloc _).alloc _) hbel) | have Y0 := Lib.hid (Sl.below (((Y0.out.alloc _).alloc _).alloc _) hbel) | skip); (first | have Q0 := Lib.hid (Sl.below Q0.out hbel) | have Q0 := Lib.hid (Sl.below (Q0.out.alloc _) hbel) | have Q0 := Lib.hid (Sl.below ((Q0.out.alloc _).alloc _) hbel) | have Q0 := Lib.hid (Sl.below (((Q0.out.alloc _).alloc _).alloc _) hbel) | skip); (first | have N0 := Lib.hid (Sl.below N0.out hbel) | have N0 := Lib.hid (Sl.below (N0.out.alloc _) hbel) | have N0 := Lib.hid (Sl.below ((N0.out.alloc _).alloc _) hbel) | have N0 := Lib.hid (Sl.below (((N0.out.alloc _).alloc _).alloc _) hbel) | skip); (first | have W := Lib.hid (Since.below W.out hbel) | have W := Lib.hid (Since.below (W.out.alloc _) hbel) | have W := Lib.hid (Since.below ((W.out.alloc _).alloc _) hbel) | have W := Lib.hid (Since.below (((W.out.alloc _).alloc _).alloc _) hbel) | skip); (first | have G := Lib.hid (GfAt.below G.out hbel) | have G := Lib.hid (GfAt.below (G.out.alloc _) hbel) | have G := Lib.hid (GfAt.below ((G.out.alloc _).alloc _) hbel) | have G := Lib.hid (GfAt.below (((G.out.alloc _).alloc _).alloc _) hbel) | skip); have G : Hid (GfAt W2 _) := hg; clear hbel)
    | (go_at_call 21; (with_reducible refine (U1.out _ _ _ _ _ ?_ ?_).mono ?_); (first | exact P0.out | exact P0.out.alloc _ | exact (P0.out.alloc _).alloc _ | exact ((P0.out.alloc _).alloc _).alloc _ | exact (((P0.out.alloc _).alloc _).alloc _).alloc _); (first | exact Q0.out | exact Q0.out.alloc _ | exact (Q0.out.alloc _).alloc _ | exact ((Q0.out.alloc _).alloc _).alloc _ | exact (((Q0.out.alloc _).alloc _).alloc _).alloc _); rintro e W3 ⟨rfl, hb⟩; have hbel : Below _ _ W3 := hb; (first | have P0 := Lib.hid (Sl.below P0.out hbel) | have P0 := Lib.hid (Sl.below (P0.out.alloc _) hbel) | have P0 := Lib.hid (Sl.below ((P0.out.alloc _).alloc _) hbel) | have P0 := Lib.hid (Sl.below (((P0.out.alloc _).alloc _).alloc _) hbel) | skip); (first | have Y0 := Lib.hid (Sl.below Y0.out hbel) | have Y0 := Lib.hid (Sl.below (Y0.out.alloc _) hbel) | have Y0 := Lib.hid (Sl.below ((Y0.out.alloc _).alloc _) hbel) | have Y0 := Lib.hid (Sl.below (((Y0.out.alloc _).alloc _).alloc _) hbel) | skip); (first | have Q0 := Lib.hid (Sl.below Q0.out hbel) | have Q0 := Lib.hid (Sl.below (Q0.out.alloc _) hbel) | have Q0 := Lib.hid (Sl.below ((Q0.out.alloc _).alloc _) hbel) | have Q0 := Lib.hid (Sl.below (((Q0.out.alloc _).alloc _).alloc _) hbel) | skip); (first | have N0 := Lib.hid (Sl.below N0.out hbel) | have N0 := Lib.hid (Sl.below (N0.out.alloc _) hbel) | have N0 := Lib.hid (Sl.below ((N0.out.alloc _).alloc _) hbel) | have N0 := Lib.hid (Sl.below (((N0.out.alloc _).alloc _).alloc _) hbel) | skip); (first | have W := Lib.hid (Since.below W.out hbel) | have W := Lib.hid (Since.below (W.out.alloc _) hbel) | have W := Lib.hid (Since.below ((W.out.alloc _).alloc _) hbel) | have W := Lib.hid (Since.below (((W.out.alloc _).alloc _).alloc _) hbel) | skip); (first | have G := Lib.hid (GfAt.below G.out hbel) | have G := Lib.hid (GfAt.below (G.out.alloc _) hbel) | have G := Lib.hid (GfAt.below ((G.out.alloc _).alloc _) hbel) | have G := Lib.hid (GfAt.below (((G.out.alloc _).alloc _).alloc _) hbel) | skip); clear hbel)
    | (go_at_call 21; (with_reducible refine (U2.out _ _ _ _ _ ?_ ?_).mono ?_); (first | exact Q0.out | exact Q0.out.alloc _ | exact (Q0.out.alloc _).alloc _ | exact ((Q0.out.alloc _).alloc _).alloc _ | exact (((Q0.out.alloc _).alloc _).alloc _).alloc _); (exact Bs.nil _); rintro e W4 ⟨rfl, hb⟩; have hbel : Below _ _ W4 := hb; (first | have P0 := Lib.hid (Sl.below P0.out hbel) | have P0 := Lib.hid (Sl.below (P0.out.alloc _) hbel) | have P0 := Lib.hid (Sl.below ((P0.out.alloc _).alloc _) hbel) | have P0 := Lib.hid (Sl.below (((P0.out.alloc _).alloc _).alloc _) hbel) | skip); (first | have Y0 := Lib.hid (Sl.below Y0.out hbel) | have Y0 := Lib.hid (Sl.below (Y0.out.alloc _) hbel) | have Y0 := Lib.hid (Sl.below ((Y0.out.alloc _).alloc _) hbel) | have Y0 := Lib.hid (Sl.below (((Y0.out.alloc _).alloc _).alloc _) hbel) | skip); (first | have Q0 := Lib.hid (Sl.below Q0.out hbel) | have Q0 := Lib.hid (Sl.below (Q0.out.alloc _) hbel) | have Q0 := Lib.hid (Sl.below ((Q0.out.alloc _).alloc _) hbel) | have Q0 := Lib.hid (Sl.below (((Q0.out.alloc _).alloc _).alloc _) hbel) | skip); (first | have N0 := Lib.hid (Sl.below N0.out hbel) | have N0 := Lib.hid (Sl.below (N0.out.alloc _) hbel) | have N0 := Lib.hid (Sl.below ((N0.out.alloc _).alloc _) hbel) | have N0 := Lib.hid (Sl.below (((N0.out.alloc _).alloc _).alloc _) hbel) | skip); (first | have W := Lib.hid (Since.below W.out hbel) | have W := Lib.hid (Since.below (W.out.alloc _) hbel) | have W := Lib.hid (Since.below ((W.out.alloc _).alloc _) hbel) | have W := Lib.hid (Since.below (((W.out.alloc _).alloc _).alloc _) hbel) | skip); (first | have G := Lib.hid (GfAt.below G.out hbel) | have G := Lib.hid (GfAt.below (G.out.alloc _) hbel) | have G := Lib.hid (GfAt.below ((G.out.alloc _).alloc _) hbel) | have G := Lib.hid (GfAt.below (((G.out.alloc _).alloc _).alloc _) hbel) | skip); clear hbel))
  go_loopw [15] (fun v wr => ∃ i : Nat, i ≤ n ∧ v = .int .i64 i ∧ Hid (∀ j, j < i → by'.getD j 0 ≠ 0) ∧ W4 = wr) (fun v _ => n - (intOf v).toNat)
  case atStart => exact ⟨0, Nat.zero_le _, rfl, (fun j h => absurd h (Nat.not_lt_zero _)), by first | rfl | trivial⟩
  case round =>
    obtain ⟨i, hi, rfl, hnz, rfl⟩ := hrel
    by_cases hlt : i < n
    · have hit : (i : Int) < (n : Int) := by omega
      obtain ⟨b2, o2, hA, _, hc⟩ := Bs.at' Y0.out (by rw [LY.out]; omega)
      have y := hc i (by rw [LY.out]; exact hlt)
      subst hA
      clear hc
      by_cases hz : by'.getD i 0 = 0
      · rw [hz] at y
        have e9 : (((0 : F).n : Int) == 0) = true := rfl
        clear hz
        go_wp2
        go_ret
        exact ⟨rfl, W.out⟩
      · have HN : Hid (∀ j, j < i + 1 → by'.getD j 0 ≠ 0) := fun j h => (Nat.lt_or_ge j i).elim (hnz.out j) fun h2 => by rw [show j = i by omega]; exact hz
        have e9 : (((by'.getD i 0).n : Int) == 0) = false := bne_n hz
        clear hz hnz
        generalize hx : by'.getD i 0 = x at *
        clear hx
        go_wp2
        go_roundw
        case rel => exact ⟨i + 1, by omega, by go_num, HN, by first | rfl | trivial⟩
        case measure => simp [intOf]; omega
    · obtain rfl : n = i := by omega
      have hit : ¬ (n : Int) < (n : Int) := by omega
      clear U1 U2
      obtain ⟨o, hkc, hol, hat1, hat2⟩ := at_points (m := mm) (an := an) V1.out V2.out (LY.out.trans LN.out.symm) (fun j hj => hnz.out j (by rw [← LN.out]; exact hj)) (by rw [LN.out, LE.out]; exact h6)
      have KC := Lib.hid hkc
      have AT1 := Lib.hid hat1
      have AT2 := Lib.hid hat2
      clear hkc hat1 hat2
      have hnzz := hnz
      clear hnz
      have Z4 : Hid (Zk W4 A1 c1 pts A2 c2 by' A3 c3 kn A4 c4 an) := ⟨P0.out, Y0.out, Q0.out, N0.out⟩
      clear P0 Y0 Q0 N0
      obtain ⟨ps, hps⟩ : ∃ ps, pts ++ kn = ps := ⟨_, rfl⟩
      obtain ⟨ys, hys⟩ : ∃ ys, by' ++ an = ys := ⟨_, rfl⟩
      have hpl : ps.length = n + E := by rw [← hps, List.length_append, LN.out, LE.out]
      have hyl : ys.length = n + E := by rw [← hys, List.length_append, LY.out, LA.out]
      have HPS := Lib.hid hps
      have HYS := Lib.hid hys
      have SU : Hid (∀ (b A c A' c' : _) (w : World), GfAt w b → Bs w A c ps → Bs w A' c' ys → Calls Try.prog 22 #[.pointer (some ⟨b, 0, none⟩), .int .i64 mm, .slice A (n + E : Nat) c, .slice A' (n + E : Nat) c'] w fun e w' => ∃ A' c', e = .returned (.slice A' mm c') ∧ Bs w' A' c' (synN mm ps ys) ∧ Below w.heap.size w w') := fun b A c A' c' w hg h h' => by
        have := sums_any b mm A c ps A' c' ys w hg h h' (hyl.trans hpl.symm) (by omega) (by omega)
        rwa [hpl] at this
      have KL : Hid (∀ (b A c : _) (w : World), GfAt w b → Bs w A c kn → Calls Try.prog 15 #[.pointer (some ⟨b, 0, none⟩), .slice A E c] w fun e w' => ∃ A' c', e = .returned (.slice A' (E + 1 : Nat) c') ∧ Bs w' A' c' (locN kn kn.length) ∧ Below w.heap.size w w') := fun b A c w hg h => by
        have := key_locator b A c kn w hg h (by rw [LE.out]; omega)
        rwa [LE.out] at this ⊢
      have PLc : Hid (∀ (b A c : _) (w : World), GfAt w b → Bs w A c pts → Calls Try.prog 15 #[.pointer (some ⟨b, 0, none⟩), .slice A n c] w fun e w' => ∃ A' c', e = .returned (.slice A' (n + 1 : Nat) c') ∧ Bs w' A' c' (locN pts pts.length) ∧ Below w.heap.size w w') := fun b A c w hg h => by
        have := key_locator b A c pts w hg h (by rw [LN.out]; omega)
        rwa [LN.out] at this ⊢
      have KSo : Hid (∀ (b A c A' c' : _) (w : World), GfAt w b → Bs w A c (synN mm ps ys) → Bs w A' c' (locN kn kn.length) → Calls Try.prog 12 #[.pointer (some ⟨b, 0, none⟩), .slice A mm c, .slice A' (E + 1 : Nat) c'] w fun e w' => ∃ A1 c1 A2 c2, e = .returned (.tuple #[.slice A1 (n + 1 : Nat) c1, .slice A2 o.length c2, .int .i64 0]) ∧ Bs w' A1 c1 (locN pts pts.length) ∧ Bs w' A2 c2 o ∧ Below w.heap.size w w') := fun b A c A' c' w hg h h' => by
        have := key_solve b A c (synN mm ps ys) A' c' (locN kn kn.length) w hg h h' (by rw [length_synN]; omega) (by rw [length_locN, LE.out]; omega)
        rw [length_synN, length_locN, LE.out] at this
        refine this.mono ?_
        rintro e w' ⟨hb, l, o', er, B1, d1, B2, d2, rfl, h3, h4, hk⟩
        have hkc := KC.out
        rw [HPS.out, HYS.out] at hkc
        obtain ⟨rfl, rfl, rfl⟩ := hk.eq (by rw [LE.out] at hkc; exact hkc)
        exact ⟨B1, d1, B2, d2, by rw [length_locN, LN.out], h3, h4, hb⟩
      have SMf : Hid (∀ (A c A' c' : _) (w : World), Bs w A c (locN pts pts.length) → Bs w A' c' (locN pts pts.length) → Calls Try.prog 14 #[.slice A (n + 1 : Nat) c, .slice A' (n + 1 : Nat) c'] w fun e w' => e = .returned (.bool true) ∧ Below w.heap.size w w') := fun A c A' c' w h h' => by
        have := same_true A c _ A' c' _ w h h' rfl
        rwa [length_locN, LN.out] at this
      have FLl : (norm (pmul (locN pts pts.length) (locN kn kn.length))).length ≤ 1000 := by
        have q1 := length_norm_le (pmul (locN pts pts.length) (locN kn kn.length))
        have q2 := length_pmul_le' (locN pts pts.length) (locN kn kn.length)
        rw [length_locN, length_locN] at q2
        have := LN.out
        have := LE.out
        omega
      have MU : Hid (∀ (b A c A' c' : _) (w : World), GfAt w b → Bs w A c (locN pts pts.length) → Bs w A' c' (locN kn kn.length) → Calls Try.prog 18 #[.pointer (some ⟨b, 0, none⟩), .slice A (n + 1 : Nat) c, .slice A' (E + 1 : Nat) c'] w fun e w' => ∃ A' c', e = .returned (.slice A' (norm (pmul (locN pts pts.length) (locN kn kn.length))).length c') ∧ Bs w' A' c' (norm (pmul (locN pts pts.length) (locN kn kn.length))) ∧ Below w.heap.size w w') := fun b A c A' c' w hg h h' => by
        have := poly_mul b A c _ A' c' _ w hg h h' (by rw [length_locN, LN.out]; omega) (by rw [length_locN, LE.out]; omega)
        rw [length_locN, length_locN, LN.out, LE.out] at this
        rw [LN.out, LE.out]
        exact this.mono fun e w' ⟨A', c', he, hm⟩ => ⟨A', c', he, hm.bs, hm.bel⟩
      clear KC V1 V2 hnzz
      generalize norm (pmul (locN pts pts.length) (locN kn kn.length)) = fl at *
      have DE : Hid (∀ (A c : _) (w : World), Bs w A c fl → Calls Try.prog 23 #[.slice A fl.length c] w fun e w' => ∃ A' c', e = .returned (.slice A' (norm (derivL fl)).length c') ∧ Bs w' A' c' (norm (derivL fl)) ∧ Below w.heap.size w w') := fun A c w h =>
        (poly_deriv A c fl w h (by omega)).mono fun e w' ⟨A', c', he, hm⟩ => ⟨A', c', he, hm.bs, hm.bel⟩
      generalize norm (derivL fl) = dv at *
      generalize hfll : fl.length = fll at *
      clear hfll
      go_wp2_with (first
        | (at_builtin; refine app_bytes _ rfl _ _ rfl W4.heap.size (some ⟨W4.heap.size, 0, none⟩) 0 0 [] rfl (own_empty W4) A1 c1 n pts rfl (Sl.alloc Z4.out.p _) LN.out (by omega) (by simp) ?_; intro Aa ca wa howna hba; rw [Nat.zero_add, List.nil_append] at howna; have HOa := Lib.hid howna; have HBa : Hid (Below W4.heap.size W4 wa) := (below_alloc W4 _).trans hba; clear howna hba)
        | (at_builtin; refine app_bytes _ rfl _ _ rfl W4.heap.size Aa ca n pts rfl HOa.out A3 c3 E kn rfl (Sl.below Z4.out.q HBa.out) LE.out (by omega) HBa.out.size ?_; intro Ab cb wb hownb hbb; rw [HPS.out] at hownb; have HBb : Hid (Below W4.heap.size W4 wb) := HBa.out.trans hbb; have PSb := Lib.hid (own_sl hownb); have Zb := Lib.hid (Z4.out.below HBb.out); clear hownb hbb)
        | (at_builtin; refine app_bytes _ rfl _ _ rfl wb.heap.size (some ⟨wb.heap.size, 0, none⟩) 0 0 [] rfl (own_empty wb) A2 c2 n by' rfl (Sl.alloc Zb.out.y _) LY.out (by omega) (by simp) ?_; intro Ac cc wc hownc hbc; rw [Nat.zero_add, List.nil_append] at hownc; have HOc := Lib.hid hownc; have HBc : Hid (Below wb.heap.size wb wc) := (below_alloc wb _).trans hbc; clear hownc hbc)
        | (at_builtin; refine app_bytes _ rfl _ _ rfl wb.heap.size Ac cc n by' rfl HOc.out A4 c4 E an rfl (Sl.below Zb.out.n HBc.out) LA.out (by omega) HBc.out.size ?_; intro Ad cd wd hownd hbd; rw [HYS.out] at hownd; have HBd : Hid (Below wb.heap.size wb wd) := HBc.out.trans hbd; have YSd := Lib.hid (own_sl hownd); have PSd := Lib.hid (Sl.below PSb.out HBd.out); have Zd := Lib.hid (Zb.out.below HBd.out); have Gd := Lib.hid (G.out.below (HBb.out.trans (HBd.out.mono HBb.out.size))); have Wd := Lib.hid (W.out.below (HBb.out.trans (HBd.out.mono HBb.out.size))); clear hownd hbd)
        | (go_at_call 22; (with_reducible refine (SU.out _ _ _ _ _ _ Gd.out PSd.out YSd.out).mono ?_); rintro ed w5 ⟨A5, c5, rfl, h5, hb⟩; have S5 := Lib.hid h5; have Z5 := Lib.hid (Zd.out.below hb); have G5 := Lib.hid (Gd.out.below hb); have W5 := Lib.hid (Wd.out.below hb); clear h5 hb)
        | (go_at_call 15; (with_reducible refine (KL.out _ _ _ _ G5.out Z5.out.q).mono ?_); rintro ed w6 ⟨A6, c6, rfl, h6, hb⟩; have L6 := Lib.hid h6; have S6 := Lib.hid (Sl.below S5.out hb); have Z6 := Lib.hid (Z5.out.below hb); have G6 := Lib.hid (G5.out.below hb); have W6 := Lib.hid (W5.out.below hb); clear h6 hb)
        | (go_at_call 12; (with_reducible refine (KSo.out _ _ _ _ _ _ G6.out S6.out L6.out).mono ?_); rintro ed w7 ⟨A7, c7, A8, c8, rfl, h7, h8, hb⟩; have L7 := Lib.hid h7; have O7 := Lib.hid h8; have K7 := Lib.hid (Sl.below L6.out hb); have Z7 := Lib.hid (Z6.out.below hb); have G7 := Lib.hid (G6.out.below hb); have W7 := Lib.hid (W6.out.below hb); clear h7 h8 hb)
        | (go_at_call 15; (with_reducible refine (PLc.out _ _ _ _ G7.out Z7.out.p).mono ?_); rintro ed w8 ⟨A9, c9, rfl, h9, hb⟩; have M8 := Lib.hid h9; have L8 := Lib.hid (Sl.below L7.out hb); have O8 := Lib.hid (Sl.below O7.out hb); have K8 := Lib.hid (Sl.below K7.out hb); have Z8 := Lib.hid (Z7.out.below hb); have G8 := Lib.hid (G7.out.below hb); have W8 := Lib.hid (W7.out.below hb); clear h9 hb)
        | (go_at_call 14; (with_reducible refine (SMf.out _ _ _ _ _ L8.out M8.out).mono ?_); rintro ed w9 ⟨rfl, hb⟩; have L9 := Lib.hid (Sl.below L8.out hb); have O9 := Lib.hid (Sl.below O8.out hb); have K9 := Lib.hid (Sl.below K8.out hb); have Z9 := Lib.hid (Z8.out.below hb); have G9 := Lib.hid (G8.out.below hb); have W9 := Lib.hid (W8.out.below hb); clear hb)
        | (go_at_call 18; (with_reducible refine (MU.out _ _ _ _ _ _ G9.out L9.out K9.out).mono ?_); rintro ed w10 ⟨A10, c10, rfl, h10, hb⟩; have F10 := Lib.hid h10; have O10 := Lib.hid (Sl.below O9.out hb); have Z10 := Lib.hid (Z9.out.below hb); have G10 := Lib.hid (G9.out.below hb); have W10 := Lib.hid (W9.out.below hb); clear h10 hb)
        | (go_at_call 23; (with_reducible refine (DE.out _ _ _ F10.out).mono ?_); rintro ed w11 ⟨A11, c11, rfl, h11, hb⟩; have D0 := Lib.hid h11; have O0 := Lib.hid (Sl.below O10.out hb); have Z0 := Lib.hid (Z10.out.below hb); have G0 := Lib.hid (G10.out.below hb); have W0 := Lib.hid (W10.out.below hb); clear h11 hb))
      clear SU KL PLc KSo SMf MU DE Z4 HOa HBa HBb PSb Zb HOc HBc HBd YSd PSd Zd Gd Wd S5 Z5 G5 W5 L6 S6 Z6 G6 W6 L7 O7 K7 Z7 G7 W7 M8 L8 O8 K8 Z8 G8 W8 L9 O9 K9 Z9 G9 W9 F10 O10 Z10 G10 W10 G W HPS HYS
      have EV : Hid (∀ (b : Nat) (x : F) (w : World), GfAt w b → Bs w A8 c8 o → Calls Try.prog 20 #[.pointer (some ⟨b, 0, none⟩), .slice A8 o.length c8, .int .u8 x.n] w fun e w' => e = .returned (.int .u8 (eval o x).n) ∧ Below w.heap.size w w') := fun b x w hg h => poly_eval b A8 c8 o x w hg h
      have EW : Hid (∀ (b : Nat) (x : F) (w : World), GfAt w b → Bs w A11 c11 dv → Calls Try.prog 20 #[.pointer (some ⟨b, 0, none⟩), .slice A11 dv.length c11, .int .u8 x.n] w fun e w' => e = .returned (.int .u8 (eval dv x).n) ∧ Below w.heap.size w w') := fun b x w hg h => poly_eval b A11 c11 dv x w hg h
      go_loopw [24] (fun v wr => ∃ i : Nat, i ≤ n ∧ v = .int .i64 i ∧ Below w11.heap.size w11 wr) (fun v _ => n - (intOf v).toNat)
      case atStart => exact ⟨0, Nat.zero_le _, rfl, Below.refl _ _⟩
      case round =>
        rename World => wr2
        obtain ⟨i, hi, rfl, hbel⟩ := hrel
        have HB := Lib.hid hbel
        clear hbel
        by_cases hlt : i < n
        · have hit : (i : Int) < (n : Int) := by omega
          have Zr := Lib.hid (Z0.out.below HB.out)
          obtain ⟨b2, o2, hA, _, _⟩ := Bs.at' Zr.out.p (by rw [LN.out]; omega)
          have PY : Hid (∀ w', Below wr2.heap.size wr2 w' → w'.cell? ⟨b2, o2 + i, none⟩ = some (.int .u8 ((pts.getD i 0).n : Int))) := fun w' hb => by
            obtain ⟨b3, o3, hA3, _, hc3⟩ := Bs.at' (Sl.below Zr.out.p hb) (by rw [LN.out]; omega)
            rw [hA] at hA3
            injection hA3 with e1
            injection e1 with e1 e2
            subst e1 e2
            exact hc3 i (by rw [LN.out]; exact hlt)
          obtain ⟨b4, o4, hA4, _, _⟩ := Bs.at' Zr.out.y (by rw [LY.out]; omega)
          have YY : Hid (∀ w', Below wr2.heap.size wr2 w' → w'.cell? ⟨b4, o4 + i, none⟩ = some (.int .u8 ((by'.getD i 0).n : Int))) := fun w' hb => by
            obtain ⟨b3, o3, hA3, _, hc3⟩ := Bs.at' (Sl.below Zr.out.y hb) (by rw [LY.out]; omega)
            rw [hA4] at hA3
            injection hA3 with e1
            injection e1 with e1 e2
            subst e1 e2
            exact hc3 i (by rw [LY.out]; exact hlt)
          obtain ⟨q, hq0, hq1, hq2⟩ := AT1.out i (by rw [LN.out]; exact hlt)
          have EV1 : Hid (∀ (b : Nat) (w : World), GfAt w b → Bs w A8 c8 o → Calls Try.prog 20 #[.pointer (some ⟨b, 0, none⟩), .slice A8 o.length c8, .int .u8 (pts.getD i 0).n] w fun e w' => e = .returned (.int .u8 (by'.getD i 0 * q).n) ∧ Below w.heap.size w w') := fun b w hg h => by
            have := EV.out b (pts.getD i 0) w hg h
            rwa [hq1] at this
          have EW1 : Hid (∀ (b : Nat) (w : World), GfAt w b → Bs w A11 c11 dv → Calls Try.prog 20 #[.pointer (some ⟨b, 0, none⟩), .slice A11 dv.length c11, .int .u8 (pts.getD i 0).n] w fun e w' => e = .returned (.int .u8 q.n) ∧ Below w.heap.size w w') := fun b w hg h => by
            have := EW.out b (pts.getD i 0) w hg h
            rwa [hq2] at this
          have DV1 : Hid (∀ (b : Nat) (w : World), GfAt w b → Calls Try.prog 24 #[.pointer (some ⟨b, 0, none⟩), .int .u8 (by'.getD i 0 * q).n, .int .u8 q.n] w fun e w' => e = .returned (.tuple #[.int .u8 (by'.getD i 0).n, .int .i64 0]) ∧ Below w.heap.size w w') := fun b w hg => by
            have := gf_div_nz b (by'.getD i 0 * q) q hq0 w hg
            rw [F.mul_assoc, F.mul_inv hq0, F.mul_one] at this
            exact this.mono fun e w' ⟨h1, nd, h2⟩ => ⟨h1, by subst h2; exact below_drew0 _ _⟩
          have y1 := PY.out _ (Below.refl _ _)
          have GX : Hid (GfAt wr2 _) := G0.out.below HB.out
          have OX := Lib.hid (Sl.below O0.out HB.out)
          have DX := Lib.hid (Sl.below D0.out HB.out)
          have HX : Hid (Below wr2.heap.size wr2 wr2) := Below.refl _ _
          subst hA hA4
          clear hq0 hq1 hq2 Zr
          generalize hxv : pts.getD i 0 = xv at *
          clear hxv
          generalize hyv : by'.getD i 0 = yv at *
          clear hyv
          have e9 : ((yv.n : Int) != (yv.n : Int)) = false := by rw [bne_self_eq_false]
          generalize yv * q = uq at *
          generalize o.length = ol at *
          generalize dv.length = dl at *
          go_wp2
          go_region_law (first
            | (go_simp; go_at_call 20; (with_reducible refine (EV1.out _ _ ?_ ?_).mono ?_); (first | exact GX.out | exact GX.out.drewN 1); (first | exact OX.out | exact Sl.drewN OX.out 1); rintro ed wy ⟨rfl, hb⟩; (first | replace GX := Lib.hid (GX.out.below hb) | replace GX := Lib.hid ((GX.out.drewN 1).below hb)); (first | replace OX := Lib.hid (Sl.below OX.out hb) | replace OX := Lib.hid (Sl.below (Sl.drewN OX.out 1) hb)); (first | replace DX := Lib.hid (Sl.below DX.out hb) | replace DX := Lib.hid (Sl.below (Sl.drewN DX.out 1) hb)); (first | replace HX := Lib.hid (HX.out.trans (hb.mono HX.out.size)) | replace HX := Lib.hid ((below_drewN HX.out 1).trans (hb.mono HX.out.size))); clear y1 hb; have y1 := PY.out _ HX.out)
            | (go_simp; go_at_call 20; (with_reducible refine (EW1.out _ _ ?_ ?_).mono ?_); (first | exact GX.out | exact GX.out.drewN 1); (first | exact DX.out | exact Sl.drewN DX.out 1); rintro ed wy ⟨rfl, hb⟩; (first | replace GX := Lib.hid (GX.out.below hb) | replace GX := Lib.hid ((GX.out.drewN 1).below hb)); (first | replace OX := Lib.hid (Sl.below OX.out hb) | replace OX := Lib.hid (Sl.below (Sl.drewN OX.out 1) hb)); (first | replace DX := Lib.hid (Sl.below DX.out hb) | replace DX := Lib.hid (Sl.below (Sl.drewN DX.out 1) hb)); (first | replace HX := Lib.hid (HX.out.trans (hb.mono HX.out.size)) | replace HX := Lib.hid ((below_drewN HX.out 1).trans (hb.mono HX.out.size))); clear y1 hb; have y1 := PY.out _ HX.out)
            | (go_simp; go_at_call 24; (with_reducible refine (DV1.out _ _ ?_).mono ?_); (first | exact GX.out | exact GX.out.drewN 1); rintro ed wy ⟨rfl, hb⟩; (first | replace HX := Lib.hid (HX.out.trans (hb.mono HX.out.size)) | replace HX := Lib.hid ((below_drewN HX.out 1).trans (hb.mono HX.out.size))); clear y1 hb; have y4 := YY.out _ HX.out))
          all_goals
            go_wp2
            go_roundw
            case rel => exact ⟨i + 1, by omega, by go_num, HB.out.trans (HX.out.mono HB.out.size)⟩
            case measure => simp [intOf]; omega
        · obtain rfl : n = i := by omega
          have hit : ¬ (n : Int) < (n : Int) := by omega
          go_wp2
          go_loopw [27] (fun v wr => ∃ i : Nat, i ≤ E ∧ v = .int .i64 i ∧ Below w11.heap.size w11 wr) (fun v _ => E - (intOf v).toNat)
          case atStart => exact ⟨0, Nat.zero_le _, rfl, HB.out⟩
          case round =>
            rename World => wr3
            clear HB
            obtain ⟨i, hi, rfl, hbel⟩ := hrel
            have HB := Lib.hid hbel
            clear hbel
            by_cases hlt : i < E
            · have hit : (i : Int) < (E : Int) := by omega
              have Zr := Lib.hid (Z0.out.below HB.out)
              obtain ⟨b2, o2, hA, _, _⟩ := Bs.at' Zr.out.q (by rw [LE.out]; omega)
              have PY : Hid (∀ w', Below wr3.heap.size wr3 w' → w'.cell? ⟨b2, o2 + i, none⟩ = some (.int .u8 ((kn.getD i 0).n : Int))) := fun w' hb => by
                obtain ⟨b3, o3, hA3, _, hc3⟩ := Bs.at' (Sl.below Zr.out.q hb) (by rw [LE.out]; omega)
                rw [hA] at hA3
                injection hA3 with e1
                injection e1 with e1 e2
                subst e1 e2
                exact hc3 i (by rw [LE.out]; exact hlt)
              obtain ⟨b4, o4, hA4, _, _⟩ := Bs.at' Zr.out.n (by rw [LA.out]; omega)
              have YY : Hid (∀ w', Below wr3.heap.size wr3 w' → w'.cell? ⟨b4, o4 + i, none⟩ = some (.int .u8 ((an.getD i 0).n : Int))) := fun w' hb => by
                obtain ⟨b3, o3, hA3, _, hc3⟩ := Bs.at' (Sl.below Zr.out.n hb) (by rw [LA.out]; omega)
                rw [hA4] at hA3
                injection hA3 with e1
                injection e1 with e1 e2
                subst e1 e2
                exact hc3 i (by rw [LA.out]; exact hlt)
              obtain ⟨q, hq0, hq1, hq2⟩ := AT2.out i (by rw [LE.out]; exact hlt)
              have EV1 : Hid (∀ (b : Nat) (w : World), GfAt w b → Bs w A8 c8 o → Calls Try.prog 20 #[.pointer (some ⟨b, 0, none⟩), .slice A8 o.length c8, .int .u8 (kn.getD i 0).n] w fun e w' => e = .returned (.int .u8 (an.getD i 0 * q).n) ∧ Below w.heap.size w w') := fun b w hg h => by
                have := EV.out b (kn.getD i 0) w hg h
                rwa [hq1] at this
              have EW1 : Hid (∀ (b : Nat) (w : World), GfAt w b → Bs w A11 c11 dv → Calls Try.prog 20 #[.pointer (some ⟨b, 0, none⟩), .slice A11 dv.length c11, .int .u8 (kn.getD i 0).n] w fun e w' => e = .returned (.int .u8 q.n) ∧ Below w.heap.size w w') := fun b w hg h => by
                have := EW.out b (kn.getD i 0) w hg h
                rwa [hq2] at this
              have DV1 : Hid (∀ (b : Nat) (w : World), GfAt w b → Calls Try.prog 24 #[.pointer (some ⟨b, 0, none⟩), .int .u8 (an.getD i 0 * q).n, .int .u8 q.n] w fun e w' => e = .returned (.tuple #[.int .u8 (an.getD i 0).n, .int .i64 0]) ∧ Below w.heap.size w w') := fun b w hg => by
                have := gf_div_nz b (an.getD i 0 * q) q hq0 w hg
                rw [F.mul_assoc, F.mul_inv hq0, F.mul_one] at this
                exact this.mono fun e w' ⟨h1, nd, h2⟩ => ⟨h1, by subst h2; exact below_drew0 _ _⟩
              have y1 := PY.out _ (Below.refl _ _)
              have GX : Hid (GfAt wr3 _) := G0.out.below HB.out
              have OX := Lib.hid (Sl.below O0.out HB.out)
              have DX := Lib.hid (Sl.below D0.out HB.out)
              have HX : Hid (Below wr3.heap.size wr3 wr3) := Below.refl _ _
              subst hA hA4
              clear hq0 hq1 hq2 Zr
              generalize hxv : kn.getD i 0 = xv at *
              clear hxv
              generalize hyv : an.getD i 0 = yv at *
              clear hyv
              have e9 : ((yv.n : Int) != (yv.n : Int)) = false := by rw [bne_self_eq_false]
              generalize yv * q = uq at *
              generalize o.length = ol at *
              generalize dv.length = dl at *
              go_wp2
              go_region_law (first
                | (go_simp; go_at_call 20; (with_reducible refine (EV1.out _ _ ?_ ?_).mono ?_); (first | exact GX.out | exact GX.out.drewN 1); (first | exact OX.out | exact Sl.drewN OX.out 1); rintro ed wy ⟨rfl, hb⟩; (first | replace GX := Lib.hid (GX.out.below hb) | replace GX := Lib.hid ((GX.out.drewN 1).below hb)); (first | replace OX := Lib.hid (Sl.below OX.out hb) | replace OX := Lib.hid (Sl.below (Sl.drewN OX.out 1) hb)); (first | replace DX := Lib.hid (Sl.below DX.out hb) | replace DX := Lib.hid (Sl.below (Sl.drewN DX.out 1) hb)); (first | replace HX := Lib.hid (HX.out.trans (hb.mono HX.out.size)) | replace HX := Lib.hid ((below_drewN HX.out 1).trans (hb.mono HX.out.size))); clear y1 hb; have y1 := PY.out _ HX.out)
                | (go_simp; go_at_call 20; (with_reducible refine (EW1.out _ _ ?_ ?_).mono ?_); (first | exact GX.out | exact GX.out.drewN 1); (first | exact DX.out | exact Sl.drewN DX.out 1); rintro ed wy ⟨rfl, hb⟩; (first | replace GX := Lib.hid (GX.out.below hb) | replace GX := Lib.hid ((GX.out.drewN 1).below hb)); (first | replace OX := Lib.hid (Sl.below OX.out hb) | replace OX := Lib.hid (Sl.below (Sl.drewN OX.out 1) hb)); (first | replace DX := Lib.hid (Sl.below DX.out hb) | replace DX := Lib.hid (Sl.below (Sl.drewN DX.out 1) hb)); (first | replace HX := Lib.hid (HX.out.trans (hb.mono HX.out.size)) | replace HX := Lib.hid ((below_drewN HX.out 1).trans (hb.mono HX.out.size))); clear y1 hb; have y1 := PY.out _ HX.out)
                | (go_simp; go_at_call 24; (with_reducible refine (DV1.out _ _ ?_).mono ?_); (first | exact GX.out | exact GX.out.drewN 1); rintro ed wy ⟨rfl, hb⟩; (first | replace HX := Lib.hid (HX.out.trans (hb.mono HX.out.size)) | replace HX := Lib.hid ((below_drewN HX.out 1).trans (hb.mono HX.out.size))); clear y1 hb; have y4 := YY.out _ HX.out))
              all_goals
                go_wp2
                go_roundw
                case rel => exact ⟨i + 1, by omega, by go_num, HB.out.trans (HX.out.mono HB.out.size)⟩
                case measure => simp [intOf]; omega
            · obtain rfl : E = i := by omega
              have hit : ¬ (E : Int) < (E : Int) := by omega
              go_wp2
              go_ret
              exact ⟨rfl, W0.out.below HB.out⟩
set_option maxRecDepth 100000 in
set_option maxHeartbeats 8000000 in
theorem walk_KeyeqFinds {w : World} (m : Int) (hm : -9223372036854775808 ≤ m ∧ m ≤ 9223372036854775807) (A1 : Option Addr) (c1 : Nat) (pts : List F) (r1 : Bs w A1 c1 pts) (A2 : Option Addr) (c2 : Nat) (by' : List F) (r2 : Bs w A2 c2 by') (A3 : Option Addr) (c3 : Nat) (kn : List F) (r3 : Bs w A3 c3 kn) (A4 : Option Addr) (c4 : Nat) (an : List F) (r4 : Bs w A4 c4 an) :
    Calls Try.prog 9 #[.int .i64 m, .slice A1 pts.length c1, .slice A2 by'.length c2, .slice A3 kn.length c3, .slice A4 an.length c4] w fun e w' => e = .returned (.bool true) ∧ Below w.heap.size w w' := by
  by_cases h0 : 0 ≤ m
  case neg =>
    have e0 : m < 0 := by omega
    have P0 := Lib.hid r1
    have Y0 := Lib.hid r2
    have Q0 := Lib.hid r3
    have N0 := Lib.hid r4
    have W := Lib.hid (Since.refl w)
    clear r1 r2 r3 r4
    go_enter Try.func9, Try.ntmps9
    go_wp2_with (first
      | (go_at_call 10; (with_reducible refine (awake9 _).mono ?_); rintro e W1 ⟨rfl, hb⟩; have hbel : Below _ _ W1 := hb; (first | have P0 := Lib.hid (Sl.below P0.out hbel) | have P0 := Lib.hid (Sl.below (P0.out.alloc _) hbel) | have P0 := Lib.hid (Sl.below ((P0.out.alloc _).alloc _) hbel) | have P0 := Lib.hid (Sl.below (((P0.out.alloc _).alloc _).alloc _) hbel) | skip); (first | have Y0 := Lib.hid (Sl.below Y0.out hbel) | have Y0 := Lib.hid (Sl.below (Y0.out.alloc _) hbel) | have Y0 := Lib.hid (Sl.below ((Y0.out.alloc _).alloc _) hbel) | have Y0 := Lib.hid (Sl.below (((Y0.out.alloc _).alloc _).alloc _) hbel) | skip); (first | have Q0 := Lib.hid (Sl.below Q0.out hbel) | have Q0 := Lib.hid (Sl.below (Q0.out.alloc _) hbel) | have Q0 := Lib.hid (Sl.below ((Q0.out.alloc _).alloc _) hbel) | have Q0 := Lib.hid (Sl.below (((Q0.out.alloc _).alloc _).alloc _) hbel) | skip); (first | have N0 := Lib.hid (Sl.below N0.out hbel) | have N0 := Lib.hid (Sl.below (N0.out.alloc _) hbel) | have N0 := Lib.hid (Sl.below ((N0.out.alloc _).alloc _) hbel) | have N0 := Lib.hid (Sl.below (((N0.out.alloc _).alloc _).alloc _) hbel) | skip); (first | have W := Lib.hid (Since.below W.out hbel) | have W := Lib.hid (Since.below (W.out.alloc _) hbel) | have W := Lib.hid (Since.below ((W.out.alloc _).alloc _) hbel) | have W := Lib.hid (Since.below (((W.out.alloc _).alloc _).alloc _) hbel) | skip); (first | have G := Lib.hid (GfAt.below G.out hbel) | have G := Lib.hid (GfAt.below (G.out.alloc _) hbel) | have G := Lib.hid (GfAt.below ((G.out.alloc _).alloc _) hbel) | have G := Lib.hid (GfAt.below (((G.out.alloc _).alloc _).alloc _) hbel) | skip); clear hbel)
      | (go_at_call 11; (with_reducible refine (new_any _).mono ?_); rintro e W2 ⟨rfl, hb, hg⟩; have hbel : Below _ _ W2 := hb; (first | have P0 := Lib.hid (Sl.below P0.out hbel) | have P0 := Lib.hid (Sl.below (P0.out.alloc _) hbel) | have P0 := Lib.hid (Sl.below ((P0.out.alloc _).alloc _) hbel) | have P0 := Lib.hid (Sl.below (((P0.out.alloc _).alloc _).alloc _) hbel) | skip); (first | have Y0 := Lib.hid (Sl.below Y0.out hbel) | have Y0 := Lib.hid (Sl.below (Y0.out.alloc _) hbel) | have Y0 := Lib.hid (Sl.below ((Y0.out.alloc _).alloc _) hbel) | have Y0 := Lib.hid (Sl.below (((Y0.out.alloc _).alloc _).alloc _) hbel) | skip); (first | have Q0 := Lib.hid (Sl.below Q0.out hbel) | have Q0 := Lib.hid (Sl.below (Q0.out.alloc _) hbel) | have Q0 := Lib.hid (Sl.below ((Q0.out.alloc _).alloc _) hbel) | have Q0 := Lib.hid (Sl.below (((Q0.out.alloc _).alloc _).alloc _) hbel) | skip); (first | have N0 := Lib.hid (Sl.below N0.out hbel) | have N0 := Lib.hid (Sl.below (N0.out.alloc _) hbel) | have N0 := Lib.hid (Sl.below ((N0.out.alloc _).alloc _) hbel) | have N0 := Lib.hid (Sl.below (((N0.out.alloc _).alloc _).alloc _) hbel) | skip); (first | have W := Lib.hid (Since.below W.out hbel) | have W := Lib.hid (Since.below (W.out.alloc _) hbel) | have W := Lib.hid (Since.below ((W.out.alloc _).alloc _) hbel) | have W := Lib.hid (Since.below (((W.out.alloc _).alloc _).alloc _) hbel) | skip); (first | have G := Lib.hid (GfAt.below G.out hbel) | have G := Lib.hid (GfAt.below (G.out.alloc _) hbel) | have G := Lib.hid (GfAt.below ((G.out.alloc _).alloc _) hbel) | have G := Lib.hid (GfAt.below (((G.out.alloc _).alloc _).alloc _) hbel) | skip); have G : Hid (GfAt W2 _) := hg; clear hbel))
    go_ret
    exact ⟨rfl, W.out⟩
  have e0 : ¬ m < 0 := by omega
  by_cases h1 : m ≤ 60
  case neg =>
    have e1 : (60 : Int) < m := by omega
    have P0 := Lib.hid r1
    have Y0 := Lib.hid r2
    have Q0 := Lib.hid r3
    have N0 := Lib.hid r4
    have W := Lib.hid (Since.refl w)
    clear r1 r2 r3 r4
    go_enter Try.func9, Try.ntmps9
    go_wp2_with (first
      | (go_at_call 10; (with_reducible refine (awake9 _).mono ?_); rintro e W1 ⟨rfl, hb⟩; have hbel : Below _ _ W1 := hb; (first | have P0 := Lib.hid (Sl.below P0.out hbel) | have P0 := Lib.hid (Sl.below (P0.out.alloc _) hbel) | have P0 := Lib.hid (Sl.below ((P0.out.alloc _).alloc _) hbel) | have P0 := Lib.hid (Sl.below (((P0.out.alloc _).alloc _).alloc _) hbel) | skip); (first | have Y0 := Lib.hid (Sl.below Y0.out hbel) | have Y0 := Lib.hid (Sl.below (Y0.out.alloc _) hbel) | have Y0 := Lib.hid (Sl.below ((Y0.out.alloc _).alloc _) hbel) | have Y0 := Lib.hid (Sl.below (((Y0.out.alloc _).alloc _).alloc _) hbel) | skip); (first | have Q0 := Lib.hid (Sl.below Q0.out hbel) | have Q0 := Lib.hid (Sl.below (Q0.out.alloc _) hbel) | have Q0 := Lib.hid (Sl.below ((Q0.out.alloc _).alloc _) hbel) | have Q0 := Lib.hid (Sl.below (((Q0.out.alloc _).alloc _).alloc _) hbel) | skip); (first | have N0 := Lib.hid (Sl.below N0.out hbel) | have N0 := Lib.hid (Sl.below (N0.out.alloc _) hbel) | have N0 := Lib.hid (Sl.below ((N0.out.alloc _).alloc _) hbel) | have N0 := Lib.hid (Sl.below (((N0.out.alloc _).alloc _).alloc _) hbel) | skip); (first | have W := Lib.hid (Since.below W.out hbel) | have W := Lib.hid (Since.below (W.out.alloc _) hbel) | have W := Lib.hid (Since.below ((W.out.alloc _).alloc _) hbel) | have W := Lib.hid (Since.below (((W.out.alloc _).alloc _).alloc _) hbel) | skip); (first | have G := Lib.hid (GfAt.below G.out hbel) | have G := Lib.hid (GfAt.below (G.out.alloc _) hbel) | have G := Lib.hid (GfAt.below ((G.out.alloc _).alloc _) hbel) | have G := Lib.hid (GfAt.below (((G.out.alloc _).alloc _).alloc _) hbel) | skip); clear hbel)
      | (go_at_call 11; (with_reducible refine (new_any _).mono ?_); rintro e W2 ⟨rfl, hb, hg⟩; have hbel : Below _ _ W2 := hb; (first | have P0 := Lib.hid (Sl.below P0.out hbel) | have P0 := Lib.hid (Sl.below (P0.out.alloc _) hbel) | have P0 := Lib.hid (Sl.below ((P0.out.alloc _).alloc _) hbel) | have P0 := Lib.hid (Sl.below (((P0.out.alloc _).alloc _).alloc _) hbel) | skip); (first | have Y0 := Lib.hid (Sl.below Y0.out hbel) | have Y0 := Lib.hid (Sl.below (Y0.out.alloc _) hbel) | have Y0 := Lib.hid (Sl.below ((Y0.out.alloc _).alloc _) hbel) | have Y0 := Lib.hid (Sl.below (((Y0.out.alloc _).alloc _).alloc _) hbel) | skip); (first | have Q0 := Lib.hid (Sl.below Q0.out hbel) | have Q0 := Lib.hid (Sl.below (Q0.out.alloc _) hbel) | have Q0 := Lib.hid (Sl.below ((Q0.out.alloc _).alloc _) hbel) | have Q0 := Lib.hid (Sl.below (((Q0.out.alloc _).alloc _).alloc _) hbel) | skip); (first | have N0 := Lib.hid (Sl.below N0.out hbel) | have N0 := Lib.hid (Sl.below (N0.out.alloc _) hbel) | have N0 := Lib.hid (Sl.below ((N0.out.alloc _).alloc _) hbel) | have N0 := Lib.hid (Sl.below (((N0.out.alloc _).alloc _).alloc _) hbel) | skip); (first | have W := Lib.hid (Since.below W.out hbel) | have W := Lib.hid (Since.below (W.out.alloc _) hbel) | have W := Lib.hid (Since.below ((W.out.alloc _).alloc _) hbel) | have W := Lib.hid (Since.below (((W.out.alloc _).alloc _).alloc _) hbel) | skip); (first | have G := Lib.hid (GfAt.below G.out hbel) | have G := Lib.hid (GfAt.below (G.out.alloc _) hbel) | have G := Lib.hid (GfAt.below ((G.out.alloc _).alloc _) hbel) | have G := Lib.hid (GfAt.below (((G.out.alloc _).alloc _).alloc _) hbel) | skip); have G : Hid (GfAt W2 _) := hg; clear hbel))
    go_ret
    exact ⟨rfl, W.out⟩
  have e1 : ¬ (60 : Int) < m := by omega
  by_cases h2 : pts.length ≤ 30
  case neg =>
    have e2 : (30 : Int) < (pts.length : Int) := by omega
    have P0 := Lib.hid r1
    have Y0 := Lib.hid r2
    have Q0 := Lib.hid r3
    have N0 := Lib.hid r4
    have W := Lib.hid (Since.refl w)
    clear r1 r2 r3 r4
    go_enter Try.func9, Try.ntmps9
    go_wp2_with (first
      | (go_at_call 10; (with_reducible refine (awake9 _).mono ?_); rintro e W1 ⟨rfl, hb⟩; have hbel : Below _ _ W1 := hb; (first | have P0 := Lib.hid (Sl.below P0.out hbel) | have P0 := Lib.hid (Sl.below (P0.out.alloc _) hbel) | have P0 := Lib.hid (Sl.below ((P0.out.alloc _).alloc _) hbel) | have P0 := Lib.hid (Sl.below (((P0.out.alloc _).alloc _).alloc _) hbel) | skip); (first | have Y0 := Lib.hid (Sl.below Y0.out hbel) | have Y0 := Lib.hid (Sl.below (Y0.out.alloc _) hbel) | have Y0 := Lib.hid (Sl.below ((Y0.out.alloc _).alloc _) hbel) | have Y0 := Lib.hid (Sl.below (((Y0.out.alloc _).alloc _).alloc _) hbel) | skip); (first | have Q0 := Lib.hid (Sl.below Q0.out hbel) | have Q0 := Lib.hid (Sl.below (Q0.out.alloc _) hbel) | have Q0 := Lib.hid (Sl.below ((Q0.out.alloc _).alloc _) hbel) | have Q0 := Lib.hid (Sl.below (((Q0.out.alloc _).alloc _).alloc _) hbel) | skip); (first | have N0 := Lib.hid (Sl.below N0.out hbel) | have N0 := Lib.hid (Sl.below (N0.out.alloc _) hbel) | have N0 := Lib.hid (Sl.below ((N0.out.alloc _).alloc _) hbel) | have N0 := Lib.hid (Sl.below (((N0.out.alloc _).alloc _).alloc _) hbel) | skip); (first | have W := Lib.hid (Since.below W.out hbel) | have W := Lib.hid (Since.below (W.out.alloc _) hbel) | have W := Lib.hid (Since.below ((W.out.alloc _).alloc _) hbel) | have W := Lib.hid (Since.below (((W.out.alloc _).alloc _).alloc _) hbel) | skip); (first | have G := Lib.hid (GfAt.below G.out hbel) | have G := Lib.hid (GfAt.below (G.out.alloc _) hbel) | have G := Lib.hid (GfAt.below ((G.out.alloc _).alloc _) hbel) | have G := Lib.hid (GfAt.below (((G.out.alloc _).alloc _).alloc _) hbel) | skip); clear hbel)
      | (go_at_call 11; (with_reducible refine (new_any _).mono ?_); rintro e W2 ⟨rfl, hb, hg⟩; have hbel : Below _ _ W2 := hb; (first | have P0 := Lib.hid (Sl.below P0.out hbel) | have P0 := Lib.hid (Sl.below (P0.out.alloc _) hbel) | have P0 := Lib.hid (Sl.below ((P0.out.alloc _).alloc _) hbel) | have P0 := Lib.hid (Sl.below (((P0.out.alloc _).alloc _).alloc _) hbel) | skip); (first | have Y0 := Lib.hid (Sl.below Y0.out hbel) | have Y0 := Lib.hid (Sl.below (Y0.out.alloc _) hbel) | have Y0 := Lib.hid (Sl.below ((Y0.out.alloc _).alloc _) hbel) | have Y0 := Lib.hid (Sl.below (((Y0.out.alloc _).alloc _).alloc _) hbel) | skip); (first | have Q0 := Lib.hid (Sl.below Q0.out hbel) | have Q0 := Lib.hid (Sl.below (Q0.out.alloc _) hbel) | have Q0 := Lib.hid (Sl.below ((Q0.out.alloc _).alloc _) hbel) | have Q0 := Lib.hid (Sl.below (((Q0.out.alloc _).alloc _).alloc _) hbel) | skip); (first | have N0 := Lib.hid (Sl.below N0.out hbel) | have N0 := Lib.hid (Sl.below (N0.out.alloc _) hbel) | have N0 := Lib.hid (Sl.below ((N0.out.alloc _).alloc _) hbel) | have N0 := Lib.hid (Sl.below (((N0.out.alloc _).alloc _).alloc _) hbel) | skip); (first | have W := Lib.hid (Since.below W.out hbel) | have W := Lib.hid (Since.below (W.out.alloc _) hbel) | have W := Lib.hid (Since.below ((W.out.alloc _).alloc _) hbel) | have W := Lib.hid (Since.below (((W.out.alloc _).alloc _).alloc _) hbel) | skip); (first | have G := Lib.hid (GfAt.below G.out hbel) | have G := Lib.hid (GfAt.below (G.out.alloc _) hbel) | have G := Lib.hid (GfAt.below ((G.out.alloc _).alloc _) hbel) | have G := Lib.hid (GfAt.below (((G.out.alloc _).alloc _).alloc _) hbel) | skip); have G : Hid (GfAt W2 _) := hg; clear hbel))
    go_ret
    exact ⟨rfl, W.out⟩
  have e2 : ¬ (30 : Int) < (pts.length : Int) := by omega
  by_cases h3 : kn.length ≤ 60
  case neg =>
    have e3 : (60 : Int) < (kn.length : Int) := by omega
    have P0 := Lib.hid r1
    have Y0 := Lib.hid r2
    have Q0 := Lib.hid r3
    have N0 := Lib.hid r4
    have W := Lib.hid (Since.refl w)
    clear r1 r2 r3 r4
    go_enter Try.func9, Try.ntmps9
    go_wp2_with (first
      | (go_at_call 10; (with_reducible refine (awake9 _).mono ?_); rintro e W1 ⟨rfl, hb⟩; have hbel : Below _ _ W1 := hb; (first | have P0 := Lib.hid (Sl.below P0.out hbel) | have P0 := Lib.hid (Sl.below (P0.out.alloc _) hbel) | have P0 := Lib.hid (Sl.below ((P0.out.alloc _).alloc _) hbel) | have P0 := Lib.hid (Sl.below (((P0.out.alloc _).alloc _).alloc _) hbel) | skip); (first | have Y0 := Lib.hid (Sl.below Y0.out hbel) | have Y0 := Lib.hid (Sl.below (Y0.out.alloc _) hbel) | have Y0 := Lib.hid (Sl.below ((Y0.out.alloc _).alloc _) hbel) | have Y0 := Lib.hid (Sl.below (((Y0.out.alloc _).alloc _).alloc _) hbel) | skip); (first | have Q0 := Lib.hid (Sl.below Q0.out hbel) | have Q0 := Lib.hid (Sl.below (Q0.out.alloc _) hbel) | have Q0 := Lib.hid (Sl.below ((Q0.out.alloc _).alloc _) hbel) | have Q0 := Lib.hid (Sl.below (((Q0.out.alloc _).alloc _).alloc _) hbel) | skip); (first | have N0 := Lib.hid (Sl.below N0.out hbel) | have N0 := Lib.hid (Sl.below (N0.out.alloc _) hbel) | have N0 := Lib.hid (Sl.below ((N0.out.alloc _).alloc _) hbel) | have N0 := Lib.hid (Sl.below (((N0.out.alloc _).alloc _).alloc _) hbel) | skip); (first | have W := Lib.hid (Since.below W.out hbel) | have W := Lib.hid (Since.below (W.out.alloc _) hbel) | have W := Lib.hid (Since.below ((W.out.alloc _).alloc _) hbel) | have W := Lib.hid (Since.below (((W.out.alloc _).alloc _).alloc _) hbel) | skip); (first | have G := Lib.hid (GfAt.below G.out hbel) | have G := Lib.hid (GfAt.below (G.out.alloc _) hbel) | have G := Lib.hid (GfAt.below ((G.out.alloc _).alloc _) hbel) | have G := Lib.hid (GfAt.below (((G.out.alloc _).alloc _).alloc _) hbel) | skip); clear hbel)
      | (go_at_call 11; (with_reducible refine (new_any _).mono ?_); rintro e W2 ⟨rfl, hb, hg⟩; have hbel : Below _ _ W2 := hb; (first | have P0 := Lib.hid (Sl.below P0.out hbel) | have P0 := Lib.hid (Sl.below (P0.out.alloc _) hbel) | have P0 := Lib.hid (Sl.below ((P0.out.alloc _).alloc _) hbel) | have P0 := Lib.hid (Sl.below (((P0.out.alloc _).alloc _).alloc _) hbel) | skip); (first | have Y0 := Lib.hid (Sl.below Y0.out hbel) | have Y0 := Lib.hid (Sl.below (Y0.out.alloc _) hbel) | have Y0 := Lib.hid (Sl.below ((Y0.out.alloc _).alloc _) hbel) | have Y0 := Lib.hid (Sl.below (((Y0.out.alloc _).alloc _).alloc _) hbel) | skip); (first | have Q0 := Lib.hid (Sl.below Q0.out hbel) | have Q0 := Lib.hid (Sl.below (Q0.out.alloc _) hbel) | have Q0 := Lib.hid (Sl.below ((Q0.out.alloc _).alloc _) hbel) | have Q0 := Lib.hid (Sl.below (((Q0.out.alloc _).alloc _).alloc _) hbel) | skip); (first | have N0 := Lib.hid (Sl.below N0.out hbel) | have N0 := Lib.hid (Sl.below (N0.out.alloc _) hbel) | have N0 := Lib.hid (Sl.below ((N0.out.alloc _).alloc _) hbel) | have N0 := Lib.hid (Sl.below (((N0.out.alloc _).alloc _).alloc _) hbel) | skip); (first | have W := Lib.hid (Since.below W.out hbel) | have W := Lib.hid (Since.below (W.out.alloc _) hbel) | have W := Lib.hid (Since.below ((W.out.alloc _).alloc _) hbel) | have W := Lib.hid (Since.below (((W.out.alloc _).alloc _).alloc _) hbel) | skip); (first | have G := Lib.hid (GfAt.below G.out hbel) | have G := Lib.hid (GfAt.below (G.out.alloc _) hbel) | have G := Lib.hid (GfAt.below ((G.out.alloc _).alloc _) hbel) | have G := Lib.hid (GfAt.below (((G.out.alloc _).alloc _).alloc _) hbel) | skip); have G : Hid (GfAt W2 _) := hg; clear hbel))
    go_ret
    exact ⟨rfl, W.out⟩
  have e3 : ¬ (60 : Int) < (kn.length : Int) := by omega
  by_cases h4 : by'.length = pts.length
  case neg =>
    have e4 : ((by'.length : Int) != (pts.length : Int)) = true := by rw [bne_iff_ne]; omega
    have P0 := Lib.hid r1
    have Y0 := Lib.hid r2
    have Q0 := Lib.hid r3
    have N0 := Lib.hid r4
    have W := Lib.hid (Since.refl w)
    clear r1 r2 r3 r4
    go_enter Try.func9, Try.ntmps9
    go_wp2_with (first
      | (go_at_call 10; (with_reducible refine (awake9 _).mono ?_); rintro e W1 ⟨rfl, hb⟩; have hbel : Below _ _ W1 := hb; (first | have P0 := Lib.hid (Sl.below P0.out hbel) | have P0 := Lib.hid (Sl.below (P0.out.alloc _) hbel) | have P0 := Lib.hid (Sl.below ((P0.out.alloc _).alloc _) hbel) | have P0 := Lib.hid (Sl.below (((P0.out.alloc _).alloc _).alloc _) hbel) | skip); (first | have Y0 := Lib.hid (Sl.below Y0.out hbel) | have Y0 := Lib.hid (Sl.below (Y0.out.alloc _) hbel) | have Y0 := Lib.hid (Sl.below ((Y0.out.alloc _).alloc _) hbel) | have Y0 := Lib.hid (Sl.below (((Y0.out.alloc _).alloc _).alloc _) hbel) | skip); (first | have Q0 := Lib.hid (Sl.below Q0.out hbel) | have Q0 := Lib.hid (Sl.below (Q0.out.alloc _) hbel) | have Q0 := Lib.hid (Sl.below ((Q0.out.alloc _).alloc _) hbel) | have Q0 := Lib.hid (Sl.below (((Q0.out.alloc _).alloc _).alloc _) hbel) | skip); (first | have N0 := Lib.hid (Sl.below N0.out hbel) | have N0 := Lib.hid (Sl.below (N0.out.alloc _) hbel) | have N0 := Lib.hid (Sl.below ((N0.out.alloc _).alloc _) hbel) | have N0 := Lib.hid (Sl.below (((N0.out.alloc _).alloc _).alloc _) hbel) | skip); (first | have W := Lib.hid (Since.below W.out hbel) | have W := Lib.hid (Since.below (W.out.alloc _) hbel) | have W := Lib.hid (Since.below ((W.out.alloc _).alloc _) hbel) | have W := Lib.hid (Since.below (((W.out.alloc _).alloc _).alloc _) hbel) | skip); (first | have G := Lib.hid (GfAt.below G.out hbel) | have G := Lib.hid (GfAt.below (G.out.alloc _) hbel) | have G := Lib.hid (GfAt.below ((G.out.alloc _).alloc _) hbel) | have G := Lib.hid (GfAt.below (((G.out.alloc _).alloc _).alloc _) hbel) | skip); clear hbel)
      | (go_at_call 11; (with_reducible refine (new_any _).mono ?_); rintro e W2 ⟨rfl, hb, hg⟩; have hbel : Below _ _ W2 := hb; (first | have P0 := Lib.hid (Sl.below P0.out hbel) | have P0 := Lib.hid (Sl.below (P0.out.alloc _) hbel) | have P0 := Lib.hid (Sl.below ((P0.out.alloc _).alloc _) hbel) | have P0 := Lib.hid (Sl.below (((P0.out.alloc _).alloc _).alloc _) hbel) | skip); (first | have Y0 := Lib.hid (Sl.below Y0.out hbel) | have Y0 := Lib.hid (Sl.below (Y0.out.alloc _) hbel) | have Y0 := Lib.hid (Sl.below ((Y0.out.alloc _).alloc _) hbel) | have Y0 := Lib.hid (Sl.below (((Y0.out.alloc _).alloc _).alloc _) hbel) | skip); (first | have Q0 := Lib.hid (Sl.below Q0.out hbel) | have Q0 := Lib.hid (Sl.below (Q0.out.alloc _) hbel) | have Q0 := Lib.hid (Sl.below ((Q0.out.alloc _).alloc _) hbel) | have Q0 := Lib.hid (Sl.below (((Q0.out.alloc _).alloc _).alloc _) hbel) | skip); (first | have N0 := Lib.hid (Sl.below N0.out hbel) | have N0 := Lib.hid (Sl.below (N0.out.alloc _) hbel) | have N0 := Lib.hid (Sl.below ((N0.out.alloc _).alloc _) hbel) | have N0 := Lib.hid (Sl.below (((N0.out.alloc _).alloc _).alloc _) hbel) | skip); (first | have W := Lib.hid (Since.below W.out hbel) | have W := Lib.hid (Since.below (W.out.alloc _) hbel) | have W := Lib.hid (Since.below ((W.out.alloc _).alloc _) hbel) | have W := Lib.hid (Since.below (((W.out.alloc _).alloc _).alloc _) hbel) | skip); (first | have G := Lib.hid (GfAt.below G.out hbel) | have G := Lib.hid (GfAt.below (G.out.alloc _) hbel) | have G := Lib.hid (GfAt.below ((G.out.alloc _).alloc _) hbel) | have G := Lib.hid (GfAt.below (((G.out.alloc _).alloc _).alloc _) hbel) | skip); have G : Hid (GfAt W2 _) := hg; clear hbel))
    go_ret
    exact ⟨rfl, W.out⟩
  have e4 : ((pts.length : Int) != (pts.length : Int)) = false := by rw [bne_self_eq_false]
  by_cases h5 : an.length = kn.length
  case neg =>
    have e4' : ((by'.length : Int) != (pts.length : Int)) = false := by rw [h4]; exact e4
    have e5 : ((an.length : Int) != (kn.length : Int)) = true := by rw [bne_iff_ne]; omega
    clear h4 e4
    have P0 := Lib.hid r1
    have Y0 := Lib.hid r2
    have Q0 := Lib.hid r3
    have N0 := Lib.hid r4
    have W := Lib.hid (Since.refl w)
    clear r1 r2 r3 r4
    go_enter Try.func9, Try.ntmps9
    go_wp2_with (first
      | (go_at_call 10; (with_reducible refine (awake9 _).mono ?_); rintro e W1 ⟨rfl, hb⟩; have hbel : Below _ _ W1 := hb; (first | have P0 := Lib.hid (Sl.below P0.out hbel) | have P0 := Lib.hid (Sl.below (P0.out.alloc _) hbel) | have P0 := Lib.hid (Sl.below ((P0.out.alloc _).alloc _) hbel) | have P0 := Lib.hid (Sl.below (((P0.out.alloc _).alloc _).alloc _) hbel) | skip); (first | have Y0 := Lib.hid (Sl.below Y0.out hbel) | have Y0 := Lib.hid (Sl.below (Y0.out.alloc _) hbel) | have Y0 := Lib.hid (Sl.below ((Y0.out.alloc _).alloc _) hbel) | have Y0 := Lib.hid (Sl.below (((Y0.out.alloc _).alloc _).alloc _) hbel) | skip); (first | have Q0 := Lib.hid (Sl.below Q0.out hbel) | have Q0 := Lib.hid (Sl.below (Q0.out.alloc _) hbel) | have Q0 := Lib.hid (Sl.below ((Q0.out.alloc _).alloc _) hbel) | have Q0 := Lib.hid (Sl.below (((Q0.out.alloc _).alloc _).alloc _) hbel) | skip); (first | have N0 := Lib.hid (Sl.below N0.out hbel) | have N0 := Lib.hid (Sl.below (N0.out.alloc _) hbel) | have N0 := Lib.hid (Sl.below ((N0.out.alloc _).alloc _) hbel) | have N0 := Lib.hid (Sl.below (((N0.out.alloc _).alloc _).alloc _) hbel) | skip); (first | have W := Lib.hid (Since.below W.out hbel) | have W := Lib.hid (Since.below (W.out.alloc _) hbel) | have W := Lib.hid (Since.below ((W.out.alloc _).alloc _) hbel) | have W := Lib.hid (Since.below (((W.out.alloc _).alloc _).alloc _) hbel) | skip); (first | have G := Lib.hid (GfAt.below G.out hbel) | have G := Lib.hid (GfAt.below (G.out.alloc _) hbel) | have G := Lib.hid (GfAt.below ((G.out.alloc _).alloc _) hbel) | have G := Lib.hid (GfAt.below (((G.out.alloc _).alloc _).alloc _) hbel) | skip); clear hbel)
      | (go_at_call 11; (with_reducible refine (new_any _).mono ?_); rintro e W2 ⟨rfl, hb, hg⟩; have hbel : Below _ _ W2 := hb; (first | have P0 := Lib.hid (Sl.below P0.out hbel) | have P0 := Lib.hid (Sl.below (P0.out.alloc _) hbel) | have P0 := Lib.hid (Sl.below ((P0.out.alloc _).alloc _) hbel) | have P0 := Lib.hid (Sl.below (((P0.out.alloc _).alloc _).alloc _) hbel) | skip); (first | have Y0 := Lib.hid (Sl.below Y0.out hbel) | have Y0 := Lib.hid (Sl.below (Y0.out.alloc _) hbel) | have Y0 := Lib.hid (Sl.below ((Y0.out.alloc _).alloc _) hbel) | have Y0 := Lib.hid (Sl.below (((Y0.out.alloc _).alloc _).alloc _) hbel) | skip); (first | have Q0 := Lib.hid (Sl.below Q0.out hbel) | have Q0 := Lib.hid (Sl.below (Q0.out.alloc _) hbel) | have Q0 := Lib.hid (Sl.below ((Q0.out.alloc _).alloc _) hbel) | have Q0 := Lib.hid (Sl.below (((Q0.out.alloc _).alloc _).alloc _) hbel) | skip); (first | have N0 := Lib.hid (Sl.below N0.out hbel) | have N0 := Lib.hid (Sl.below (N0.out.alloc _) hbel) | have N0 := Lib.hid (Sl.below ((N0.out.alloc _).alloc _) hbel) | have N0 := Lib.hid (Sl.below (((N0.out.alloc _).alloc _).alloc _) hbel) | skip); (first | have W := Lib.hid (Since.below W.out hbel) | have W := Lib.hid (Since.below (W.out.alloc _) hbel) | have W := Lib.hid (Since.below ((W.out.alloc _).alloc _) hbel) | have W := Lib.hid (Since.below (((W.out.alloc _).alloc _).alloc _) hbel) | skip); (first | have G := Lib.hid (GfAt.below G.out hbel) | have G := Lib.hid (GfAt.below (G.out.alloc _) hbel) | have G := Lib.hid (GfAt.below ((G.out.alloc _).alloc _) hbel) | have G := Lib.hid (GfAt.below (((G.out.alloc _).alloc _).alloc _) hbel) | skip); have G : Hid (GfAt W2 _) := hg; clear hbel))
    go_ret
    exact ⟨rfl, W.out⟩
  have e5 : ((kn.length : Int) != (kn.length : Int)) = false := by rw [bne_self_eq_false]
  obtain ⟨n, hn⟩ : ∃ n, pts.length = n := ⟨_, rfl⟩
  obtain ⟨E, hE⟩ : ∃ E, kn.length = E := ⟨_, rfl⟩
  rw [h4, h5]
  rw [hn] at e4 h2 e2 h4 ⊢
  rw [hE] at e5 h3 e3 h5 ⊢
  obtain ⟨mm, rfl⟩ := Int.eq_ofNat_of_zero_le h0
  have LN := Lib.hid hn
  have LE := Lib.hid hE
  have LY := Lib.hid h4
  have LA := Lib.hid h5
  clear h4 h5 hn hE hm
  by_cases h6 : 2 * n + E ≤ mm
  case neg =>
    have e6 : (mm : Int) < 2 * (n : Int) + (E : Int) := by omega
    have P0 := Lib.hid r1
    have Y0 := Lib.hid r2
    have Q0 := Lib.hid r3
    have N0 := Lib.hid r4
    have W := Lib.hid (Since.refl w)
    clear r1 r2 r3 r4
    go_enter Try.func9, Try.ntmps9
    go_wp2_with (first
      | (go_at_call 10; (with_reducible refine (awake9 _).mono ?_); rintro e W1 ⟨rfl, hb⟩; have hbel : Below _ _ W1 := hb; (first | have P0 := Lib.hid (Sl.below P0.out hbel) | have P0 := Lib.hid (Sl.below (P0.out.alloc _) hbel) | have P0 := Lib.hid (Sl.below ((P0.out.alloc _).alloc _) hbel) | have P0 := Lib.hid (Sl.below (((P0.out.alloc _).alloc _).alloc _) hbel) | skip); (first | have Y0 := Lib.hid (Sl.below Y0.out hbel) | have Y0 := Lib.hid (Sl.below (Y0.out.alloc _) hbel) | have Y0 := Lib.hid (Sl.below ((Y0.out.alloc _).alloc _) hbel) | have Y0 := Lib.hid (Sl.below (((Y0.out.alloc _).alloc _).alloc _) hbel) | skip); (first | have Q0 := Lib.hid (Sl.below Q0.out hbel) | have Q0 := Lib.hid (Sl.below (Q0.out.alloc _) hbel) | have Q0 := Lib.hid (Sl.below ((Q0.out.alloc _).alloc _) hbel) | have Q0 := Lib.hid (Sl.below (((Q0.out.alloc _).alloc _).alloc _) hbel) | skip); (first | have N0 := Lib.hid (Sl.below N0.out hbel) | have N0 := Lib.hid (Sl.below (N0.out.alloc _) hbel) | have N0 := Lib.hid (Sl.below ((N0.out.alloc _).alloc _) hbel) | have N0 := Lib.hid (Sl.below (((N0.out.alloc _).alloc _).alloc _) hbel) | skip); (first | have W := Lib.hid (Since.below W.out hbel) | have W := Lib.hid (Since.below (W.out.alloc _) hbel) | have W := Lib.hid (Since.below ((W.out.alloc _).alloc _) hbel) | have W := Lib.hid (Since.below (((W.out.alloc _).alloc _).alloc _) hbel) | skip); (first | have G := Lib.hid (GfAt.below G.out hbel) | have G := Lib.hid (GfAt.below (G.out.alloc _) hbel) | have G := Lib.hid (GfAt.below ((G.out.alloc _).alloc _) hbel) | have G := Lib.hid (GfAt.below (((G.out.alloc _).alloc _).alloc _) hbel) | skip); clear hbel)
      | (go_at_call 11; (with_reducible refine (new_any _).mono ?_); rintro e W2 ⟨rfl, hb, hg⟩; have hbel : Below _ _ W2 := hb; (first | have P0 := Lib.hid (Sl.below P0.out hbel) | have P0 := Lib.hid (Sl.below (P0.out.alloc _) hbel) | have P0 := Lib.hid (Sl.below ((P0.out.alloc _).alloc _) hbel) | have P0 := Lib.hid (Sl.below (((P0.out.alloc _).alloc _).alloc _) hbel) | skip); (first | have Y0 := Lib.hid (Sl.below Y0.out hbel) | have Y0 := Lib.hid (Sl.below (Y0.out.alloc _) hbel) | have Y0 := Lib.hid (Sl.below ((Y0.out.alloc _).alloc _) hbel) | have Y0 := Lib.hid (Sl.below (((Y0.out.alloc _).alloc _).alloc _) hbel) | skip); (first | have Q0 := Lib.hid (Sl.below Q0.out hbel) | have Q0 := Lib.hid (Sl.below (Q0.out.alloc _) hbel) | have Q0 := Lib.hid (Sl.below ((Q0.out.alloc _).alloc _) hbel) | have Q0 := Lib.hid (Sl.below (((Q0.out.alloc _).alloc _).alloc _) hbel) | skip); (first | have N0 := Lib.hid (Sl.below N0.out hbel) | have N0 := Lib.hid (Sl.below (N0.out.alloc _) hbel) | have N0 := Lib.hid (Sl.below ((N0.out.alloc _).alloc _) hbel) | have N0 := Lib.hid (Sl.below (((N0.out.alloc _).alloc _).alloc _) hbel) | skip); (first | have W := Lib.hid (Since.below W.out hbel) | have W := Lib.hid (Since.below (W.out.alloc _) hbel) | have W := Lib.hid (Since.below ((W.out.alloc _).alloc _) hbel) | have W := Lib.hid (Since.below (((W.out.alloc _).alloc _).alloc _) hbel) | skip); (first | have G := Lib.hid (GfAt.below G.out hbel) | have G := Lib.hid (GfAt.below (G.out.alloc _) hbel) | have G := Lib.hid (GfAt.below ((G.out.alloc _).alloc _) hbel) | have G := Lib.hid (GfAt.below (((G.out.alloc _).alloc _).alloc _) hbel) | skip); have G : Hid (GfAt W2 _) := hg; clear hbel))
    go_ret
    exact ⟨rfl, W.out⟩
  have e6 : ¬ (mm : Int) < 2 * (n : Int) + (E : Int) := by omega
  by_cases u1 : Unl pts kn pts.length
  case neg =>
    have U1 : Hid (∀ (A c A' c' : _) (w : World), Bs w A c pts → Bs w A' c' kn → Calls Try.prog 21 #[.slice A n c, .slice A' E c'] w fun e w' => e = .returned (.bool false) ∧ Below w.heap.size w w') := fun A c A' c' w h h' => by
      have := unlike_false A c pts A' c' kn w u1 h h' (by rw [LN.out]; omega) (by rw [LE.out]; omega)
      rwa [LN.out, LE.out] at this
    have U2 : Hid (∀ (A c : _) (w : World), Bs w A c kn → Calls Try.prog 21 #[.slice A E c, .slice none 0 0] w fun e w' => ∃ v : Bool, e = .returned (.bool v) ∧ Below w.heap.size w w') := fun A c w h => by
      have := unlike_any A c kn none 0 [] w h (Bs.nil _) (by rw [LE.out]; omega) (by simp)
      rw [LE.out, List.length_nil] at this
      exact this.mono fun e w' ⟨v, he, _, hb⟩ => ⟨v, he, hb⟩
    clear u1
    have P0 := Lib.hid r1
    have Y0 := Lib.hid r2
    have Q0 := Lib.hid r3
    have N0 := Lib.hid r4
    have W := Lib.hid (Since.refl w)
    clear r1 r2 r3 r4
    go_enter Try.func9, Try.ntmps9
    go_wp2_with (first
      | (go_at_call 10; (with_reducible refine (awake9 _).mono ?_); rintro e W1 ⟨rfl, hb⟩; have hbel : Below _ _ W1 := hb; (first | have P0 := Lib.hid (Sl.below P0.out hbel) | have P0 := Lib.hid (Sl.below (P0.out.alloc _) hbel) | have P0 := Lib.hid (Sl.below ((P0.out.alloc _).alloc _) hbel) | have P0 := Lib.hid (Sl.below (((P0.out.alloc _).alloc _).alloc _) hbel) | skip); (first | have Y0 := Lib.hid (Sl.below Y0.out hbel) | have Y0 := Lib.hid (Sl.below (Y0.out.alloc _) hbel) | have Y0 := Lib.hid (Sl.below ((Y0.out.alloc _).alloc _) hbel) | have Y0 := Lib.hid (Sl.below (((Y0.out.alloc _).alloc _).alloc _) hbel) | skip); (first | have Q0 := Lib.hid (Sl.below Q0.out hbel) | have Q0 := Lib.hid (Sl.below (Q0.out.alloc _) hbel) | have Q0 := Lib.hid (Sl.below ((Q0.out.alloc _).alloc _) hbel) | have Q0 := Lib.hid (Sl.below (((Q0.out.alloc _).alloc _).alloc _) hbel) | skip); (first | have N0 := Lib.hid (Sl.below N0.out hbel) | have N0 := Lib.hid (Sl.below (N0.out.alloc _) hbel) | have N0 := Lib.hid (Sl.below ((N0.out.alloc _).alloc _) hbel) | have N0 := Lib.hid (Sl.below (((N0.out.alloc _).alloc _).alloc _) hbel) | skip); (first | have W := Lib.hid (Since.below W.out hbel) | have W := Lib.hid (Since.below (W.out.alloc _) hbel) | have W := Lib.hid (Since.below ((W.out.alloc _).alloc _) hbel) | have W := Lib.hid (Since.below (((W.out.alloc _).alloc _).alloc _) hbel) | skip); (first | have G := Lib.hid (GfAt.below G.out hbel) | have G := Lib.hid (GfAt.below (G.out.alloc _) hbel) | have G := Lib.hid (GfAt.below ((G.out.alloc _).alloc _) hbel) | have G := Lib.hid (GfAt.below (((G.out.alloc _).alloc _).alloc _) hbel) | skip); clear hbel)
      | (go_at_call 11; (with_reducible refine (new_any _).mono ?_); rintro e W2 ⟨rfl, hb, hg⟩; have hbel : Below _ _ W2 := hb; (first | have P0 := Lib.hid (Sl.below P0.out hbel) | have P0 := Lib.hid (Sl.below (P0.out.alloc _) hbel) | have P0 := Lib.hid (Sl.below ((P0.out.alloc _).alloc _) hbel) | have P0 := Lib.hid (Sl.below (((P0.out.alloc _).alloc _).alloc _) hbel) | skip); (first | have Y0 := Lib.hid (Sl.below Y0.out hbel) | have Y0 := Lib.hid (Sl.below (Y0.out.alloc _) hbel) | have Y0 := Lib.hid (Sl.below ((Y0.out.alloc _).alloc _) hbel) | have Y0 := Lib.hid (Sl.below (((Y0.out.alloc _).alloc _).alloc _) hbel) | skip); (first | have Q0 := Lib.hid (Sl.below Q0.out hbel) | have Q0 := Lib.hid (Sl.below (Q0.out.alloc _) hbel) | have Q0 := Lib.hid (Sl.below ((Q0.out.alloc _).alloc _) hbel) | have Q0 := Lib.hid (Sl.below (((Q0.out.alloc _).alloc _).alloc _) hbel) | skip); (first | have N0 := Lib.hid (Sl.below N0.out hbel) | have N0 := Lib.hid (Sl.below (N0.out.alloc _) hbel) | have N0 := Lib.hid (Sl.below ((N0.out.alloc _).alloc _) hbel) | have N0 := Lib.hid (Sl.below (((N0.out.alloc _).alloc _).alloc _) hbel) | skip); (first | have W := Lib.hid (Since.below W.out hbel) | have W := Lib.hid (Since.below (W.out.alloc _) hbel) | have W := Lib.hid (Since.below ((W.out.alloc _).alloc _) hbel) | have W := Lib.hid (Since.below (((W.out.alloc _).alloc _).alloc _) hbel) | skip); (first | have G := Lib.hid (GfAt.below G.out hbel) | have G := Lib.hid (GfAt.below (G.out.alloc _) hbel) | have G := Lib.hid (GfAt.below ((G.out.alloc _).alloc _) hbel) | have G := Lib.hid (GfAt.below (((G.out.alloc _).alloc _).alloc _) hbel) | skip); have G : Hid (GfAt W2 _) := hg; clear hbel)
      | (go_at_call 21; (with_reducible refine (U1.out _ _ _ _ _ ?_ ?_).mono ?_); (first | exact P0.out | exact P0.out.alloc _ | exact (P0.out.alloc _).alloc _ | exact ((P0.out.alloc _).alloc _).alloc _ | exact (((P0.out.alloc _).alloc _).alloc _).alloc _); (first | exact Q0.out | exact Q0.out.alloc _ | exact (Q0.out.alloc _).alloc _ | exact ((Q0.out.alloc _).alloc _).alloc _ | exact (((Q0.out.alloc _).alloc _).alloc _).alloc _); rintro e W3 ⟨rfl, hb⟩; have hbel : Below _ _ W3 := hb; (first | have P0 := Lib.hid (Sl.below P0.out hbel) | have P0 := Lib.hid (Sl.below (P0.out.alloc _) hbel) | have P0 := Lib.hid (Sl.below ((P0.out.alloc _).alloc _) hbel) | have P0 := Lib.hid (Sl.below (((P0.out.alloc _).alloc _).alloc _) hbel) | skip); (first | have Y0 := Lib.hid (Sl.below Y0.out hbel) | have Y0 := Lib.hid (Sl.below (Y0.out.alloc _) hbel) | have Y0 := Lib.hid (Sl.below ((Y0.out.alloc _).alloc _) hbel) | have Y0 := Lib.hid (Sl.below (((Y0.out.alloc _).alloc _).alloc _) hbel) | skip); (first | have Q0 := Lib.hid (Sl.below Q0.out hbel) | have Q0 := Lib.hid (Sl.below (Q0.out.alloc _) hbel) | have Q0 := Lib.hid (Sl.below ((Q0.out.alloc _).alloc _) hbel) | have Q0 := Lib.hid (Sl.below (((Q0.out.alloc _).alloc _).alloc _) hbel) | skip); (first | have N0 := Lib.hid (Sl.below N0.out hbel) | have N0 := Lib.hid (Sl.below (N0.out.alloc _) hbel) | have N0 := Lib.hid (Sl.below ((N0.out.alloc _).alloc _) hbel) | have N0 := Lib.hid (Sl.below (((N0.out.alloc _).alloc _).alloc _) hbel) | skip); (first | have W := Lib.hid (Since.below W.out hbel) | have W := Lib.hid (Since.below (W.out.alloc _) hbel) | have W := Lib.hid (Since.below ((W.out.alloc _).alloc _) hbel) | have W := Lib.hid (Since.below (((W.out.alloc _).alloc _).alloc _) hbel) | skip); (first | have G := Lib.hid (GfAt.below G.out hbel) | have G := Lib.hid (GfAt.below (G.out.alloc _) hbel) | have G := Lib.hid (GfAt.below ((G.out.alloc _).alloc _) hbel) | have G := Lib.hid (GfAt.below (((G.out.alloc _).alloc _).alloc _) hbel) | skip); clear hbel)
      | (go_at_call 21; (with_reducible refine (U2.out _ _ _ ?_).mono ?_); (first | exact Q0.out | exact Q0.out.alloc _ | exact (Q0.out.alloc _).alloc _ | exact ((Q0.out.alloc _).alloc _).alloc _ | exact (((Q0.out.alloc _).alloc _).alloc _).alloc _); rintro e W4 ⟨v2, rfl, hb⟩; have hbel : Below _ _ W4 := hb; (first | have P0 := Lib.hid (Sl.below P0.out hbel) | have P0 := Lib.hid (Sl.below (P0.out.alloc _) hbel) | have P0 := Lib.hid (Sl.below ((P0.out.alloc _).alloc _) hbel) | have P0 := Lib.hid (Sl.below (((P0.out.alloc _).alloc _).alloc _) hbel) | skip); (first | have Y0 := Lib.hid (Sl.below Y0.out hbel) | have Y0 := Lib.hid (Sl.below (Y0.out.alloc _) hbel) | have Y0 := Lib.hid (Sl.below ((Y0.out.alloc _).alloc _) hbel) | have Y0 := Lib.hid (Sl.below (((Y0.out.alloc _).alloc _).alloc _) hbel) | skip); (first | have Q0 := Lib.hid (Sl.below Q0.out hbel) | have Q0 := Lib.hid (Sl.below (Q0.out.alloc _) hbel) | have Q0 := Lib.hid (Sl.below ((Q0.out.alloc _).alloc _) hbel) | have Q0 := Lib.hid (Sl.below (((Q0.out.alloc _).alloc _).alloc _) hbel) | skip); (first | have N0 := Lib.hid (Sl.below N0.out hbel) | have N0 := Lib.hid (Sl.below (N0.out.alloc _) hbel) | have N0 := Lib.hid (Sl.below ((N0.out.alloc _).alloc _) hbel) | have N0 := Lib.hid (Sl.below (((N0.out.alloc _).alloc _).alloc _) hbel) | skip); (first | have W := Lib.hid (Since.below W.out hbel) | have W := Lib.hid (Since.below (W.out.alloc _) hbel) | have W := Lib.hid (Since.below ((W.out.alloc _).alloc _) hbel) | have W := Lib.hid (Since.below (((W.out.alloc _).alloc _).alloc _) hbel) | skip); (first | have G := Lib.hid (GfAt.below G.out hbel) | have G := Lib.hid (GfAt.below (G.out.alloc _) hbel) | have G := Lib.hid (GfAt.below ((G.out.alloc _).alloc _) hbel) | have G := Lib.hid (GfAt.below (((G.out.alloc _).alloc _).alloc _) hbel) | skip); clear hbel))
    go_ret
    exact ⟨rfl, W.out⟩
  have U1 : Hid (∀ (A c A' c' : _) (w : World), Bs w A c pts → Bs w A' c' kn → Calls Try.prog 21 #[.slice A n c, .slice A' E c'] w fun e w' => e = .returned (.bool true) ∧ Below w.heap.size w w') := fun A c A' c' w h h' => by
    have := unlike_true A c pts A' c' kn w u1 h h' (by rw [LN.out]; omega) (by rw [LE.out]; omega)
    rwa [LN.out, LE.out] at this
  by_cases u2 : Unl kn [] kn.length
  case neg =>
    have U2 : Hid (∀ (A c A' c' : _) (w : World), Bs w A c kn → Bs w A' c' [] → Calls Try.prog 21 #[.slice A E c, .slice A' 0 c'] w fun e w' => e = .returned (.bool false) ∧ Below w.heap.size w w') := fun A c A' c' w h h' => by
      have := unlike_false A c kn A' c' [] w u2 h h' (by rw [LE.out]; omega) (by simp)
      rwa [LE.out, List.length_nil] at this
    clear u1 u2
    have P0 := Lib.hid r1
    have Y0 := Lib.hid r2
    have Q0 := Lib.hid r3
    have N0 := Lib.hid r4
    have W := Lib.hid (Since.refl w)
    clear r1 r2 r3 r4
    go_enter Try.func9, Try.ntmps9
    go_wp2_with (first
      | (go_at_call 10; (with_reducible refine (awake9 _).mono ?_); rintro e W1 ⟨rfl, hb⟩; have hbel : Below _ _ W1 := hb; (first | have P0 := Lib.hid (Sl.below P0.out hbel) | have P0 := Lib.hid (Sl.below (P0.out.alloc _) hbel) | have P0 := Lib.hid (Sl.below ((P0.out.alloc _).alloc _) hbel) | have P0 := Lib.hid (Sl.below (((P0.out.alloc _).alloc _).alloc _) hbel) | skip); (first | have Y0 := Lib.hid (Sl.below Y0.out hbel) | have Y0 := Lib.hid (Sl.below (Y0.out.alloc _) hbel) | have Y0 := Lib.hid (Sl.below ((Y0.out.alloc _).alloc _) hbel) | have Y0 := Lib.hid (Sl.below (((Y0.out.alloc _).alloc _).alloc _) hbel) | skip); (first | have Q0 := Lib.hid (Sl.below Q0.out hbel) | have Q0 := Lib.hid (Sl.below (Q0.out.alloc _) hbel) | have Q0 := Lib.hid (Sl.below ((Q0.out.alloc _).alloc _) hbel) | have Q0 := Lib.hid (Sl.below (((Q0.out.alloc _).alloc _).alloc _) hbel) | skip); (first | have N0 := Lib.hid (Sl.below N0.out hbel) | have N0 := Lib.hid (Sl.below (N0.out.alloc _) hbel) | have N0 := Lib.hid (Sl.below ((N0.out.alloc _).alloc _) hbel) | have N0 := Lib.hid (Sl.below (((N0.out.alloc _).alloc _).alloc _) hbel) | skip); (first | have W := Lib.hid (Since.below W.out hbel) | have W := Lib.hid (Since.below (W.out.alloc _) hbel) | have W := Lib.hid (Since.below ((W.out.alloc _).alloc _) hbel) | have W := Lib.hid (Since.below (((W.out.alloc _).alloc _).alloc _) hbel) | skip); (first | have G := Lib.hid (GfAt.below G.out hbel) | have G := Lib.hid (GfAt.below (G.out.alloc _) hbel) | have G := Lib.hid (GfAt.below ((G.out.alloc _).alloc _) hbel) | have G := Lib.hid (GfAt.below (((G.out.alloc _).alloc _).alloc _) hbel) | skip); clear hbel)
      | (go_at_call 11; (with_reducible refine (new_any _).mono ?_); rintro e W2 ⟨rfl, hb, hg⟩; have hbel : Below _ _ W2 := hb; (first | have P0 := Lib.hid (Sl.below P0.out hbel) | have P0 := Lib.hid (Sl.below (P0.out.alloc _) hbel) | have P0 := Lib.hid (Sl.below ((P0.out.alloc _).alloc _) hbel) | have P0 := Lib.hid (Sl.below (((P0.out.alloc _).alloc _).alloc _) hbel) | skip); (first | have Y0 := Lib.hid (Sl.below Y0.out hbel) | have Y0 := Lib.hid (Sl.below (Y0.out.alloc _) hbel) | have Y0 := Lib.hid (Sl.below ((Y0.out.alloc _).alloc _) hbel) | have Y0 := Lib.hid (Sl.below (((Y0.out.alloc _).alloc _).alloc _) hbel) | skip); (first | have Q0 := Lib.hid (Sl.below Q0.out hbel) | have Q0 := Lib.hid (Sl.below (Q0.out.alloc _) hbel) | have Q0 := Lib.hid (Sl.below ((Q0.out.alloc _).alloc _) hbel) | have Q0 := Lib.hid (Sl.below (((Q0.out.alloc _).alloc _).alloc _) hbel) | skip); (first | have N0 := Lib.hid (Sl.below N0.out hbel) | have N0 := Lib.hid (Sl.below (N0.out.alloc _) hbel) | have N0 := Lib.hid (Sl.below ((N0.out.alloc _).alloc _) hbel) | have N0 := Lib.hid (Sl.below (((N0.out.alloc _).alloc _).alloc _) hbel) | skip); (first | have W := Lib.hid (Since.below W.out hbel) | have W := Lib.hid (Since.below (W.out.alloc _) hbel) | have W := Lib.hid (Since.below ((W.out.alloc _).alloc _) hbel) | have W := Lib.hid (Since.below (((W.out.alloc _).alloc _).alloc _) hbel) | skip); (first | have G := Lib.hid (GfAt.below G.out hbel) | have G := Lib.hid (GfAt.below (G.out.alloc _) hbel) | have G := Lib.hid (GfAt.below ((G.out.alloc _).alloc _) hbel) | have G := Lib.hid (GfAt.below (((G.out.alloc _).alloc _).alloc _) hbel) | skip); have G : Hid (GfAt W2 _) := hg; clear hbel)
      | (go_at_call 21; (with_reducible refine (U1.out _ _ _ _ _ ?_ ?_).mono ?_); (first | exact P0.out | exact P0.out.alloc _ | exact (P0.out.alloc _).alloc _ | exact ((P0.out.alloc _).alloc _).alloc _ | exact (((P0.out.alloc _).alloc _).alloc _).alloc _); (first | exact Q0.out | exact Q0.out.alloc _ | exact (Q0.out.alloc _).alloc _ | exact ((Q0.out.alloc _).alloc _).alloc _ | exact (((Q0.out.alloc _).alloc _).alloc _).alloc _); rintro e W3 ⟨rfl, hb⟩; have hbel : Below _ _ W3 := hb; (first | have P0 := Lib.hid (Sl.below P0.out hbel) | have P0 := Lib.hid (Sl.below (P0.out.alloc _) hbel) | have P0 := Lib.hid (Sl.below ((P0.out.alloc _).alloc _) hbel) | have P0 := Lib.hid (Sl.below (((P0.out.alloc _).alloc _).alloc _) hbel) | skip); (first | have Y0 := Lib.hid (Sl.below Y0.out hbel) | have Y0 := Lib.hid (Sl.below (Y0.out.alloc _) hbel) | have Y0 := Lib.hid (Sl.below ((Y0.out.alloc _).alloc _) hbel) | have Y0 := Lib.hid (Sl.below (((Y0.out.alloc _).alloc _).alloc _) hbel) | skip); (first | have Q0 := Lib.hid (Sl.below Q0.out hbel) | have Q0 := Lib.hid (Sl.below (Q0.out.alloc _) hbel) | have Q0 := Lib.hid (Sl.below ((Q0.out.alloc _).alloc _) hbel) | have Q0 := Lib.hid (Sl.below (((Q0.out.alloc _).alloc _).alloc _) hbel) | skip); (first | have N0 := Lib.hid (Sl.below N0.out hbel) | have N0 := Lib.hid (Sl.below (N0.out.alloc _) hbel) | have N0 := Lib.hid (Sl.below ((N0.out.alloc _).alloc _) hbel) | have N0 := Lib.hid (Sl.below (((N0.out.alloc _).alloc _).alloc _) hbel) | skip); (first | have W := Lib.hid (Since.below W.out hbel) | have W := Lib.hid (Since.below (W.out.alloc _) hbel) | have W := Lib.hid (Since.below ((W.out.alloc _).alloc _) hbel) | have W := Lib.hid (Since.below (((W.out.alloc _).alloc _).alloc _) hbel) | skip); (first | have G := Lib.hid (GfAt.below G.out hbel) | have G := Lib.hid (GfAt.below (G.out.alloc _) hbel) | have G := Lib.hid (GfAt.below ((G.out.alloc _).alloc _) hbel) | have G := Lib.hid (GfAt.below (((G.out.alloc _).alloc _).alloc _) hbel) | skip); clear hbel)
      | (go_at_call 21; (with_reducible refine (U2.out _ _ _ _ _ ?_ ?_).mono ?_); (first | exact Q0.out | exact Q0.out.alloc _ | exact (Q0.out.alloc _).alloc _ | exact ((Q0.out.alloc _).alloc _).alloc _ | exact (((Q0.out.alloc _).alloc _).alloc _).alloc _); (exact Bs.nil _); rintro e W4 ⟨rfl, hb⟩; have hbel : Below _ _ W4 := hb; (first | have P0 := Lib.hid (Sl.below P0.out hbel) | have P0 := Lib.hid (Sl.below (P0.out.alloc _) hbel) | have P0 := Lib.hid (Sl.below ((P0.out.alloc _).alloc _) hbel) | have P0 := Lib.hid (Sl.below (((P0.out.alloc _).alloc _).alloc _) hbel) | skip); (first | have Y0 := Lib.hid (Sl.below Y0.out hbel) | have Y0 := Lib.hid (Sl.below (Y0.out.alloc _) hbel) | have Y0 := Lib.hid (Sl.below ((Y0.out.alloc _).alloc _) hbel) | have Y0 := Lib.hid (Sl.below (((Y0.out.alloc _).alloc _).alloc _) hbel) | skip); (first | have Q0 := Lib.hid (Sl.below Q0.out hbel) | have Q0 := Lib.hid (Sl.below (Q0.out.alloc _) hbel) | have Q0 := Lib.hid (Sl.below ((Q0.out.alloc _).alloc _) hbel) | have Q0 := Lib.hid (Sl.below (((Q0.out.alloc _).alloc _).alloc _) hbel) | skip); (first | have N0 := Lib.hid (Sl.below N0.out hbel) | have N0 := Lib.hid (Sl.below (N0.out.alloc _) hbel) | have N0 := Lib.hid (Sl.below ((N0.out.alloc _).alloc _) hbel) | have N0 := Lib.hid (Sl.below (((N0.out.alloc _).alloc _).alloc _) hbel) | skip); (first | have W := Lib.hid (Since.below W.out hbel) | have W := Lib.hid (Since.below (W.out.alloc _) hbel) | have W := Lib.hid (Since.below ((W.out.alloc _).alloc _) hbel) | have W := Lib.hid (Since.below (((W.out.alloc _).alloc _).alloc _) hbel) | skip); (first | have G := Lib.hid (GfAt.below G.out hbel) | have G := Lib.hid (GfAt.below (G.out.alloc _) hbel) | have G := Lib.hid (GfAt.below ((G.out.alloc _).alloc _) hbel) | have G := Lib.hid (GfAt.below (((G.out.alloc _).alloc _).alloc _) hbel) | skip); clear hbel))
    go_ret
    exact ⟨rfl, W.out⟩
  exact finds_main n E mm A1 c1 pts A2 c2 by' A3 c3 kn A4 c4 an LN.out LE.out LY.out LA.out r1 r2 r3 r4 u1 u2 (by omega) h2 h3 h6
end Go.Proofs.Ytmcamamfpefffaa
