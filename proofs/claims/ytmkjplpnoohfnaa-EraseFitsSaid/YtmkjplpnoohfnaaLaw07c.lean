/- EraseSums, walked. -/
import Derived.Test.YtmkjplpnoohfnaaLaw07b
namespace Go.Proofs.Ytmkjplpnoohfnaa
open Go.RowKit
set_option linter.unusedVariables false
set_option linter.unusedSimpArgs false
/-- of shards of one length each the answers are alike, and so are their sums -/
theorem sums_case {k m : Int} {has : List Bool} {la lb X Y Z : List (List F)} {E G H : Int} (h1 : DecCase k m has la X E) (h2 : DecCase k m has lb Y G) (h3 : DecCase k m has (addL la lb) Z H) (hn : la.length = lb.length) (hl : ∀ i, i < la.length → lenAt la i = lenAt lb i) :
    G = E ∧ H = E ∧ (E = 0 → ∃ n L, Eql X n L ∧ Eql Y n L ∧ Eql Z n L ∧ n ≤ 256 ∧ L ≤ 100000 ∧ ∀ a x, a < n → x < L → at2 Z a x = at2 X a x + at2 Y a x) := by
  have hl' : ∀ i, lenAt la i = lenAt lb i := fun i => by
    rcases Nat.lt_or_ge i la.length with q | q
    · exact hl i q
    · unfold lenAt; rw [getD_over' q, getD_over' (by omega)]
  have hlc : ∀ i, lenAt (addL la lb) i = lenAt la i := fun i => lenAt_addL _ _ i
  have hnc : (addL la lb).length = la.length := length_mapR _ _
  have hS : SameL has la has.length ↔ SameL has lb has.length := ⟨fun h i j hi hj => by rw [← hl' i, ← hl' j]; exact h i j hi hj, fun h i j hi hj => by rw [hl' i, hl' j]; exact h i j hi hj⟩
  have hS' : SameL has la has.length ↔ SameL has (addL la lb) has.length := ⟨fun h i j hi hj => by rw [hlc i, hlc j]; exact h i j hi hj, fun h i j hi hj => by rw [← hlc i, ← hlc j]; exact h i j hi hj⟩
  rcases h1 with ⟨a, rfl, rfl⟩ | ⟨a, b, rfl, rfl⟩ | ⟨a, b, c, rfl, rfl⟩ | ⟨a, b, c, d, rfl, rfl⟩ | ⟨a, b, c, d, rfl, hd⟩
  · rcases h2 with ⟨_, rfl, rfl⟩ | ⟨q, _⟩ | ⟨q, _⟩ | ⟨q, _⟩ | ⟨q, _⟩
    · rcases h3 with ⟨_, rfl, rfl⟩ | ⟨q, _⟩ | ⟨q, _⟩ | ⟨q, _⟩ | ⟨q, _⟩
      · exact ⟨rfl, rfl, fun h => absurd h (by decide)⟩
      all_goals exact absurd q a
    all_goals exact absurd q a
  · rcases h2 with ⟨q, _⟩ | ⟨_, _, rfl, rfl⟩ | ⟨_, q, _⟩ | ⟨_, q, _⟩ | ⟨_, q, _⟩
    · exact absurd a q
    · rcases h3 with ⟨q, _⟩ | ⟨_, _, rfl, rfl⟩ | ⟨_, q, _⟩ | ⟨_, q, _⟩ | ⟨_, q, _⟩
      · exact absurd a q
      · exact ⟨rfl, rfl, fun h => absurd h (by decide)⟩
      all_goals exact absurd ⟨q.1, by rw [← hnc]; exact q.2⟩ b
    all_goals exact absurd ⟨q.1, by rw [hn]; exact q.2⟩ b
  · rcases h2 with ⟨q, _⟩ | ⟨_, q, _⟩ | ⟨_, _, _, rfl, rfl⟩ | ⟨_, _, q, _⟩ | ⟨_, _, q, _⟩
    · exact absurd a q
    · exact absurd ⟨b.1, by rw [← hn]; exact b.2⟩ q
    · rcases h3 with ⟨q, _⟩ | ⟨_, q, _⟩ | ⟨_, _, _, rfl, rfl⟩ | ⟨_, _, q, _⟩ | ⟨_, _, q, _⟩
      · exact absurd a q
      · exact absurd ⟨b.1, by rw [hnc]; exact b.2⟩ q
      · exact ⟨rfl, rfl, fun h => absurd h (by decide)⟩
      all_goals exact absurd (hS'.2 q) c
    all_goals exact absurd (hS.2 q) c
  · rcases h2 with ⟨q, _⟩ | ⟨_, q, _⟩ | ⟨_, _, q, _⟩ | ⟨_, _, _, _, rfl, rfl⟩ | ⟨_, _, _, q, _⟩
    · exact absurd a q
    · exact absurd ⟨b.1, by rw [← hn]; exact b.2⟩ q
    · exact absurd (hS.1 c) q
    · rcases h3 with ⟨q, _⟩ | ⟨_, q, _⟩ | ⟨_, _, q, _⟩ | ⟨_, _, _, _, rfl, rfl⟩ | ⟨_, _, _, q, _⟩
      · exact absurd a q
      · exact absurd ⟨b.1, by rw [hnc]; exact b.2⟩ q
      · exact absurd (hS'.1 c) q
      · exact ⟨rfl, rfl, fun h => absurd h (by decide)⟩
      · omega
    · omega
  · rcases h2 with ⟨q, _⟩ | ⟨_, q, _⟩ | ⟨_, _, q, _⟩ | ⟨_, _, _, q, _⟩ | ⟨_, _, _, _, rfl, he⟩
    · exact absurd a q
    · exact absurd ⟨b.1, by rw [← hn]; exact b.2⟩ q
    · exact absurd (hS.1 c) q
    · omega
    · rcases h3 with ⟨q, _⟩ | ⟨_, q, _⟩ | ⟨_, _, q, _⟩ | ⟨_, _, _, q, _⟩ | ⟨_, _, _, _, rfl, hf⟩
      · exact absurd a q
      · exact absurd ⟨b.1, by rw [hnc]; exact b.2⟩ q
      · exact absurd (hS'.1 c) q
      · omega
      · refine ⟨rfl, rfl, fun _ => ?_⟩
        obtain ⟨k, m, rfl, rfl⟩ := okkm_nat a
        obtain ⟨g1, g2, g3⟩ := a
        have hb1 : has.length = k + m := by omega
        have hcc : k ≤ (idx has has.length).length := by omega
        obtain ⟨D1, L, q1, rfl, q3, q4, q5⟩ := hd
        obtain ⟨D2, L2, p1, rfl, p3, p4, p5⟩ := he
        simp only [Int.toNat_natCast] at q1 q4 q5 p1 p4 p5 hf ⊢
        have hLk := fst_len hcc
        have e : L2 = L := by rw [← p4 0 (by omega), ← q4 0 (by omega), hl']
        subst e
        have hZ := Dec.eq (D' := addL D1 D2) hf (by omega) (by omega) hb1 hcc (q1.mapR _) (fun i hi => by rw [hlc, q4 i hi]) fun i hi x hx => by
          have hfi : (fst k has).getD i 0 < la.length := by have := fst_lt (getD_mem (l := fst k has) (i := i) (by omega)); omega
          have hfk : (fst k has).getD i 0 < k + m := by omega
          rw [enc_addL q1 p1 (by omega), at2_addL (by rw [(q1.enc (by omega) m).len]; exact hfk) (by rw [(q1.enc (by omega) m).row _ hfk]; exact hx), q5 i hi x hx, p5 i hi x hx, at2_addL hfi (by rw [q4 i hi]; exact hx)]
        subst hZ
        have eX := q1.enc (show 1 ≤ k by omega) m
        refine ⟨k + m, L2, eX, p1.enc (by omega) m, Eql.enc (q1.mapR _) (by omega) m, by omega, q3, fun a x ha hx => ?_⟩
        rw [enc_addL q1 p1 (by omega)]
        exact at2_addL (by rw [eX.len]; exact ha) (by rw [eX.row a ha]; exact hx)
set_option maxRecDepth 1000000 in
set_option maxHeartbeats 4000000 in
theorem walk_EraseSums {w : World} (k : Int) (hk : -9223372036854775808 ≤ k ∧ k ≤ 9223372036854775807) (m : Int) (hm : -9223372036854775808 ≤ m ∧ m ≤ 9223372036854775807) (Al : Option Addr) (cl : Nat) (has : List Bool) (hh : Sl w Al cl (has.map Value.bool)) (Aa : Option Addr) (ca : Nat) (la : List (List F)) (ha : Rr w Aa ca la) (Ab : Option Addr) (cb : Nat) (lb : List (List F)) (hb : Rr w Ab cb lb) :
    Calls Try.prog 34 #[.int .i64 k, .int .i64 m, .slice Al has.length cl, .slice Aa la.length ca, .slice Ab lb.length cb] w fun e w' => e = .returned (.bool true) ∧ Below w.heap.size w w' := by
  have HH := Lib.hid hh
  clear hh
  by_cases hfa : FewP k m la
  rotate_left
  · by_cases hfb : FewP k m lb
    · have FA : Hid (∀ A c w, Rr w A c la → Calls Try.prog 70 #[.int .i64 k, .int .i64 m, .slice A la.length c] w fun e w' => e = .returned (.bool false) ∧ Below w.heap.size w w') := fun A c w h => few_any k m A c la false w hk hm h (by simp [hfa])
      have FB : Hid (∀ A c w, Rr w A c lb → Calls Try.prog 70 #[.int .i64 k, .int .i64 m, .slice A lb.length c] w fun e w' => e = .returned (.bool true) ∧ Below w.heap.size w w') := fun A c w h => few_any k m A c lb true w hk hm h (by simp [hfb])
      have K := Lib.hid (Lk.start w)
      replace K := Lib.hid (K.out.rr' ha)
      replace K := Lib.hid (K.out.rr' hb)
      clear ha hb
      go_enter Try.func34, Try.ntmps34
      go_wp2_with (first
        | (go_at_call 84; (with_reducible refine (awake7 _).mono ?_); rintro e w1 ⟨rfl, hbel⟩; (first | replace K := Lib.hid (K.out.below hbel) | replace K := Lib.hid ((K.out.alloc _).below hbel) | replace K := Lib.hid (((K.out.alloc _).alloc _).below hbel) | replace K := Lib.hid ((((K.out.alloc _).alloc _).alloc _).below hbel) | replace K := Lib.hid (((((K.out.alloc _).alloc _).alloc _).alloc _).below hbel) | replace K := Lib.hid (K.out.drew.below hbel) | replace K := Lib.hid ((K.out.drewN _).below hbel)); clear hbel)
        | (go_at_call 37; (with_reducible refine (new_any _).mono ?_); rintro e w2 ⟨rfl, hbel, hg⟩; (first | replace K := Lib.hid (K.out.below hbel) | replace K := Lib.hid ((K.out.alloc _).below hbel) | replace K := Lib.hid (((K.out.alloc _).alloc _).below hbel) | replace K := Lib.hid ((((K.out.alloc _).alloc _).alloc _).below hbel) | replace K := Lib.hid (((((K.out.alloc _).alloc _).alloc _).alloc _).below hbel) | replace K := Lib.hid (K.out.drew.below hbel) | replace K := Lib.hid ((K.out.drewN _).below hbel)); clear hbel; replace K := Lib.hid (K.out.withF hg); clear hg)
        | (go_at_call 70; (with_reducible refine (FA.out _ _ _ ?_).mono ?_); (first | exact K.out.at (.tail _ (.head _)) | exact (K.out.alloc _).at (.tail _ (.head _)) | exact ((K.out.alloc _).alloc _).at (.tail _ (.head _)) | exact (((K.out.alloc _).alloc _).alloc _).at (.tail _ (.head _)) | exact ((((K.out.alloc _).alloc _).alloc _).alloc _).at (.tail _ (.head _)) | exact K.out.drew.at (.tail _ (.head _)) | exact (K.out.drewN _).at (.tail _ (.head _))); rintro e w3 ⟨rfl, hbel⟩; (first | replace K := Lib.hid (K.out.below hbel) | replace K := Lib.hid ((K.out.alloc _).below hbel) | replace K := Lib.hid (((K.out.alloc _).alloc _).below hbel) | replace K := Lib.hid ((((K.out.alloc _).alloc _).alloc _).below hbel) | replace K := Lib.hid (((((K.out.alloc _).alloc _).alloc _).alloc _).below hbel) | replace K := Lib.hid (K.out.drew.below hbel) | replace K := Lib.hid ((K.out.drewN _).below hbel)); clear hbel)
        | (go_at_call 70; (with_reducible refine (FB.out _ _ _ ?_).mono ?_); (first | exact K.out.at (.head _) | exact (K.out.alloc _).at (.head _) | exact ((K.out.alloc _).alloc _).at (.head _) | exact (((K.out.alloc _).alloc _).alloc _).at (.head _) | exact ((((K.out.alloc _).alloc _).alloc _).alloc _).at (.head _) | exact K.out.drew.at (.head _) | exact (K.out.drewN _).at (.head _)); rintro e w4 ⟨rfl, hbel⟩; (first | replace K := Lib.hid (K.out.below hbel) | replace K := Lib.hid ((K.out.alloc _).below hbel) | replace K := Lib.hid (((K.out.alloc _).alloc _).below hbel) | replace K := Lib.hid ((((K.out.alloc _).alloc _).alloc _).below hbel) | replace K := Lib.hid (((((K.out.alloc _).alloc _).alloc _).alloc _).below hbel) | replace K := Lib.hid (K.out.drew.below hbel) | replace K := Lib.hid ((K.out.drewN _).below hbel)); clear hbel))
      go_ret
      exact ⟨rfl, K.out.since⟩
    · have FA : Hid (∀ A c w, Rr w A c la → Calls Try.prog 70 #[.int .i64 k, .int .i64 m, .slice A la.length c] w fun e w' => e = .returned (.bool false) ∧ Below w.heap.size w w') := fun A c w h => few_any k m A c la false w hk hm h (by simp [hfa])
      have FB : Hid (∀ A c w, Rr w A c lb → Calls Try.prog 70 #[.int .i64 k, .int .i64 m, .slice A lb.length c] w fun e w' => e = .returned (.bool false) ∧ Below w.heap.size w w') := fun A c w h => few_any k m A c lb false w hk hm h (by simp [hfb])
      have K := Lib.hid (Lk.start w)
      replace K := Lib.hid (K.out.rr' ha)
      replace K := Lib.hid (K.out.rr' hb)
      clear ha hb
      go_enter Try.func34, Try.ntmps34
      go_wp2_with (first
        | (go_at_call 84; (with_reducible refine (awake7 _).mono ?_); rintro e w1 ⟨rfl, hbel⟩; (first | replace K := Lib.hid (K.out.below hbel) | replace K := Lib.hid ((K.out.alloc _).below hbel) | replace K := Lib.hid (((K.out.alloc _).alloc _).below hbel) | replace K := Lib.hid ((((K.out.alloc _).alloc _).alloc _).below hbel) | replace K := Lib.hid (((((K.out.alloc _).alloc _).alloc _).alloc _).below hbel) | replace K := Lib.hid (K.out.drew.below hbel) | replace K := Lib.hid ((K.out.drewN _).below hbel)); clear hbel)
        | (go_at_call 37; (with_reducible refine (new_any _).mono ?_); rintro e w2 ⟨rfl, hbel, hg⟩; (first | replace K := Lib.hid (K.out.below hbel) | replace K := Lib.hid ((K.out.alloc _).below hbel) | replace K := Lib.hid (((K.out.alloc _).alloc _).below hbel) | replace K := Lib.hid ((((K.out.alloc _).alloc _).alloc _).below hbel) | replace K := Lib.hid (((((K.out.alloc _).alloc _).alloc _).alloc _).below hbel) | replace K := Lib.hid (K.out.drew.below hbel) | replace K := Lib.hid ((K.out.drewN _).below hbel)); clear hbel; replace K := Lib.hid (K.out.withF hg); clear hg)
        | (go_at_call 70; (with_reducible refine (FA.out _ _ _ ?_).mono ?_); (first | exact K.out.at (.tail _ (.head _)) | exact (K.out.alloc _).at (.tail _ (.head _)) | exact ((K.out.alloc _).alloc _).at (.tail _ (.head _)) | exact (((K.out.alloc _).alloc _).alloc _).at (.tail _ (.head _)) | exact ((((K.out.alloc _).alloc _).alloc _).alloc _).at (.tail _ (.head _)) | exact K.out.drew.at (.tail _ (.head _)) | exact (K.out.drewN _).at (.tail _ (.head _))); rintro e w3 ⟨rfl, hbel⟩; (first | replace K := Lib.hid (K.out.below hbel) | replace K := Lib.hid ((K.out.alloc _).below hbel) | replace K := Lib.hid (((K.out.alloc _).alloc _).below hbel) | replace K := Lib.hid ((((K.out.alloc _).alloc _).alloc _).below hbel) | replace K := Lib.hid (((((K.out.alloc _).alloc _).alloc _).alloc _).below hbel) | replace K := Lib.hid (K.out.drew.below hbel) | replace K := Lib.hid ((K.out.drewN _).below hbel)); clear hbel)
        | (go_at_call 70; (with_reducible refine (FB.out _ _ _ ?_).mono ?_); (first | exact K.out.at (.head _) | exact (K.out.alloc _).at (.head _) | exact ((K.out.alloc _).alloc _).at (.head _) | exact (((K.out.alloc _).alloc _).alloc _).at (.head _) | exact ((((K.out.alloc _).alloc _).alloc _).alloc _).at (.head _) | exact K.out.drew.at (.head _) | exact (K.out.drewN _).at (.head _)); rintro e w4 ⟨rfl, hbel⟩; (first | replace K := Lib.hid (K.out.below hbel) | replace K := Lib.hid ((K.out.alloc _).below hbel) | replace K := Lib.hid (((K.out.alloc _).alloc _).below hbel) | replace K := Lib.hid ((((K.out.alloc _).alloc _).alloc _).below hbel) | replace K := Lib.hid (((((K.out.alloc _).alloc _).alloc _).alloc _).below hbel) | replace K := Lib.hid (K.out.drew.below hbel) | replace K := Lib.hid ((K.out.drewN _).below hbel)); clear hbel))
      go_ret
      exact ⟨rfl, K.out.since⟩
  have FA : Hid (∀ A c w, Rr w A c la → Calls Try.prog 70 #[.int .i64 k, .int .i64 m, .slice A la.length c] w fun e w' => e = .returned (.bool true) ∧ Below w.heap.size w w') := fun A c w h => few_any k m A c la true w hk hm h (by simp [hfa])
  by_cases hfb : FewP k m lb
  rotate_left
  · have FB : Hid (∀ A c w, Rr w A c lb → Calls Try.prog 70 #[.int .i64 k, .int .i64 m, .slice A lb.length c] w fun e w' => e = .returned (.bool false) ∧ Below w.heap.size w w') := fun A c w h => few_any k m A c lb false w hk hm h (by simp [hfb])
    have K := Lib.hid (Lk.start w)
    replace K := Lib.hid (K.out.rr' ha)
    replace K := Lib.hid (K.out.rr' hb)
    clear ha hb
    go_enter Try.func34, Try.ntmps34
    go_wp2_with (first
      | (go_at_call 84; (with_reducible refine (awake7 _).mono ?_); rintro e w1 ⟨rfl, hbel⟩; (first | replace K := Lib.hid (K.out.below hbel) | replace K := Lib.hid ((K.out.alloc _).below hbel) | replace K := Lib.hid (((K.out.alloc _).alloc _).below hbel) | replace K := Lib.hid ((((K.out.alloc _).alloc _).alloc _).below hbel) | replace K := Lib.hid (((((K.out.alloc _).alloc _).alloc _).alloc _).below hbel) | replace K := Lib.hid (K.out.drew.below hbel) | replace K := Lib.hid ((K.out.drewN _).below hbel)); clear hbel)
      | (go_at_call 37; (with_reducible refine (new_any _).mono ?_); rintro e w2 ⟨rfl, hbel, hg⟩; (first | replace K := Lib.hid (K.out.below hbel) | replace K := Lib.hid ((K.out.alloc _).below hbel) | replace K := Lib.hid (((K.out.alloc _).alloc _).below hbel) | replace K := Lib.hid ((((K.out.alloc _).alloc _).alloc _).below hbel) | replace K := Lib.hid (((((K.out.alloc _).alloc _).alloc _).alloc _).below hbel) | replace K := Lib.hid (K.out.drew.below hbel) | replace K := Lib.hid ((K.out.drewN _).below hbel)); clear hbel; replace K := Lib.hid (K.out.withF hg); clear hg)
      | (go_at_call 70; (with_reducible refine (FA.out _ _ _ ?_).mono ?_); (first | exact K.out.at (.tail _ (.head _)) | exact (K.out.alloc _).at (.tail _ (.head _)) | exact ((K.out.alloc _).alloc _).at (.tail _ (.head _)) | exact (((K.out.alloc _).alloc _).alloc _).at (.tail _ (.head _)) | exact ((((K.out.alloc _).alloc _).alloc _).alloc _).at (.tail _ (.head _)) | exact K.out.drew.at (.tail _ (.head _)) | exact (K.out.drewN _).at (.tail _ (.head _))); rintro e w3 ⟨rfl, hbel⟩; (first | replace K := Lib.hid (K.out.below hbel) | replace K := Lib.hid ((K.out.alloc _).below hbel) | replace K := Lib.hid (((K.out.alloc _).alloc _).below hbel) | replace K := Lib.hid ((((K.out.alloc _).alloc _).alloc _).below hbel) | replace K := Lib.hid (((((K.out.alloc _).alloc _).alloc _).alloc _).below hbel) | replace K := Lib.hid (K.out.drew.below hbel) | replace K := Lib.hid ((K.out.drewN _).below hbel)); clear hbel)
      | (go_at_call 70; (with_reducible refine (FB.out _ _ _ ?_).mono ?_); (first | exact K.out.at (.head _) | exact (K.out.alloc _).at (.head _) | exact ((K.out.alloc _).alloc _).at (.head _) | exact (((K.out.alloc _).alloc _).alloc _).at (.head _) | exact ((((K.out.alloc _).alloc _).alloc _).alloc _).at (.head _) | exact K.out.drew.at (.head _) | exact (K.out.drewN _).at (.head _)); rintro e w4 ⟨rfl, hbel⟩; (first | replace K := Lib.hid (K.out.below hbel) | replace K := Lib.hid ((K.out.alloc _).below hbel) | replace K := Lib.hid (((K.out.alloc _).alloc _).below hbel) | replace K := Lib.hid ((((K.out.alloc _).alloc _).alloc _).below hbel) | replace K := Lib.hid (((((K.out.alloc _).alloc _).alloc _).alloc _).below hbel) | replace K := Lib.hid (K.out.drew.below hbel) | replace K := Lib.hid ((K.out.drewN _).below hbel)); clear hbel))
    go_ret
    exact ⟨rfl, K.out.since⟩
  have FB : Hid (∀ A c w, Rr w A c lb → Calls Try.prog 70 #[.int .i64 k, .int .i64 m, .slice A lb.length c] w fun e w' => e = .returned (.bool true) ∧ Below w.heap.size w w') := fun A c w h => few_any k m A c lb true w hk hm h (by simp [hfb])
  by_cases h20 : la.length ≤ 20
  rotate_left
  · have d20 : (20 : Int) < (la.length : Int) := by omega
    have K := Lib.hid (Lk.start w)
    replace K := Lib.hid (K.out.rr' ha)
    replace K := Lib.hid (K.out.rr' hb)
    clear ha hb
    go_enter Try.func34, Try.ntmps34
    go_wp2_with (first
      | (go_at_call 84; (with_reducible refine (awake7 _).mono ?_); rintro e w1 ⟨rfl, hbel⟩; (first | replace K := Lib.hid (K.out.below hbel) | replace K := Lib.hid ((K.out.alloc _).below hbel) | replace K := Lib.hid (((K.out.alloc _).alloc _).below hbel) | replace K := Lib.hid ((((K.out.alloc _).alloc _).alloc _).below hbel) | replace K := Lib.hid (((((K.out.alloc _).alloc _).alloc _).alloc _).below hbel) | replace K := Lib.hid (K.out.drew.below hbel) | replace K := Lib.hid ((K.out.drewN _).below hbel)); clear hbel)
      | (go_at_call 37; (with_reducible refine (new_any _).mono ?_); rintro e w2 ⟨rfl, hbel, hg⟩; (first | replace K := Lib.hid (K.out.below hbel) | replace K := Lib.hid ((K.out.alloc _).below hbel) | replace K := Lib.hid (((K.out.alloc _).alloc _).below hbel) | replace K := Lib.hid ((((K.out.alloc _).alloc _).alloc _).below hbel) | replace K := Lib.hid (((((K.out.alloc _).alloc _).alloc _).alloc _).below hbel) | replace K := Lib.hid (K.out.drew.below hbel) | replace K := Lib.hid ((K.out.drewN _).below hbel)); clear hbel; replace K := Lib.hid (K.out.withF hg); clear hg)
      | (go_at_call 70; (with_reducible refine (FA.out _ _ _ ?_).mono ?_); (first | exact K.out.at (.tail _ (.head _)) | exact (K.out.alloc _).at (.tail _ (.head _)) | exact ((K.out.alloc _).alloc _).at (.tail _ (.head _)) | exact (((K.out.alloc _).alloc _).alloc _).at (.tail _ (.head _)) | exact ((((K.out.alloc _).alloc _).alloc _).alloc _).at (.tail _ (.head _)) | exact K.out.drew.at (.tail _ (.head _)) | exact (K.out.drewN _).at (.tail _ (.head _))); rintro e w3 ⟨rfl, hbel⟩; (first | replace K := Lib.hid (K.out.below hbel) | replace K := Lib.hid ((K.out.alloc _).below hbel) | replace K := Lib.hid (((K.out.alloc _).alloc _).below hbel) | replace K := Lib.hid ((((K.out.alloc _).alloc _).alloc _).below hbel) | replace K := Lib.hid (((((K.out.alloc _).alloc _).alloc _).alloc _).below hbel) | replace K := Lib.hid (K.out.drew.below hbel) | replace K := Lib.hid ((K.out.drewN _).below hbel)); clear hbel)
      | (go_at_call 70; (with_reducible refine (FB.out _ _ _ ?_).mono ?_); (first | exact K.out.at (.head _) | exact (K.out.alloc _).at (.head _) | exact ((K.out.alloc _).alloc _).at (.head _) | exact (((K.out.alloc _).alloc _).alloc _).at (.head _) | exact ((((K.out.alloc _).alloc _).alloc _).alloc _).at (.head _) | exact K.out.drew.at (.head _) | exact (K.out.drewN _).at (.head _)); rintro e w4 ⟨rfl, hbel⟩; (first | replace K := Lib.hid (K.out.below hbel) | replace K := Lib.hid ((K.out.alloc _).below hbel) | replace K := Lib.hid (((K.out.alloc _).alloc _).below hbel) | replace K := Lib.hid ((((K.out.alloc _).alloc _).alloc _).below hbel) | replace K := Lib.hid (((((K.out.alloc _).alloc _).alloc _).alloc _).below hbel) | replace K := Lib.hid (K.out.drew.below hbel) | replace K := Lib.hid ((K.out.drewN _).below hbel)); clear hbel))
    go_ret
    exact ⟨rfl, K.out.since⟩
  have d20 : ¬ (20 : Int) < (la.length : Int) := by omega
  by_cases hab : la.length = lb.length
  rotate_left
  · have d0 : ((la.length : Int) == (lb.length : Int)) = false := by rw [beq_eq_false_iff_ne]; omega
    have d1 : ((la.length : Int) != (lb.length : Int)) = true := by rw [bne_iff_ne]; omega
    clear hab
    have K := Lib.hid (Lk.start w)
    replace K := Lib.hid (K.out.rr' ha)
    replace K := Lib.hid (K.out.rr' hb)
    clear ha hb
    go_enter Try.func34, Try.ntmps34
    go_wp2_with (first
      | (go_at_call 84; (with_reducible refine (awake7 _).mono ?_); rintro e w1 ⟨rfl, hbel⟩; (first | replace K := Lib.hid (K.out.below hbel) | replace K := Lib.hid ((K.out.alloc _).below hbel) | replace K := Lib.hid (((K.out.alloc _).alloc _).below hbel) | replace K := Lib.hid ((((K.out.alloc _).alloc _).alloc _).below hbel) | replace K := Lib.hid (((((K.out.alloc _).alloc _).alloc _).alloc _).below hbel) | replace K := Lib.hid (K.out.drew.below hbel) | replace K := Lib.hid ((K.out.drewN _).below hbel)); clear hbel)
      | (go_at_call 37; (with_reducible refine (new_any _).mono ?_); rintro e w2 ⟨rfl, hbel, hg⟩; (first | replace K := Lib.hid (K.out.below hbel) | replace K := Lib.hid ((K.out.alloc _).below hbel) | replace K := Lib.hid (((K.out.alloc _).alloc _).below hbel) | replace K := Lib.hid ((((K.out.alloc _).alloc _).alloc _).below hbel) | replace K := Lib.hid (((((K.out.alloc _).alloc _).alloc _).alloc _).below hbel) | replace K := Lib.hid (K.out.drew.below hbel) | replace K := Lib.hid ((K.out.drewN _).below hbel)); clear hbel; replace K := Lib.hid (K.out.withF hg); clear hg)
      | (go_at_call 70; (with_reducible refine (FA.out _ _ _ ?_).mono ?_); (first | exact K.out.at (.tail _ (.head _)) | exact (K.out.alloc _).at (.tail _ (.head _)) | exact ((K.out.alloc _).alloc _).at (.tail _ (.head _)) | exact (((K.out.alloc _).alloc _).alloc _).at (.tail _ (.head _)) | exact ((((K.out.alloc _).alloc _).alloc _).alloc _).at (.tail _ (.head _)) | exact K.out.drew.at (.tail _ (.head _)) | exact (K.out.drewN _).at (.tail _ (.head _))); rintro e w3 ⟨rfl, hbel⟩; (first | replace K := Lib.hid (K.out.below hbel) | replace K := Lib.hid ((K.out.alloc _).below hbel) | replace K := Lib.hid (((K.out.alloc _).alloc _).below hbel) | replace K := Lib.hid ((((K.out.alloc _).alloc _).alloc _).below hbel) | replace K := Lib.hid (((((K.out.alloc _).alloc _).alloc _).alloc _).below hbel) | replace K := Lib.hid (K.out.drew.below hbel) | replace K := Lib.hid ((K.out.drewN _).below hbel)); clear hbel)
      | (go_at_call 70; (with_reducible refine (FB.out _ _ _ ?_).mono ?_); (first | exact K.out.at (.head _) | exact (K.out.alloc _).at (.head _) | exact ((K.out.alloc _).alloc _).at (.head _) | exact (((K.out.alloc _).alloc _).alloc _).at (.head _) | exact ((((K.out.alloc _).alloc _).alloc _).alloc _).at (.head _) | exact K.out.drew.at (.head _) | exact (K.out.drewN _).at (.head _)); rintro e w4 ⟨rfl, hbel⟩; (first | replace K := Lib.hid (K.out.below hbel) | replace K := Lib.hid ((K.out.alloc _).below hbel) | replace K := Lib.hid (((K.out.alloc _).alloc _).below hbel) | replace K := Lib.hid ((((K.out.alloc _).alloc _).alloc _).below hbel) | replace K := Lib.hid (((((K.out.alloc _).alloc _).alloc _).alloc _).below hbel) | replace K := Lib.hid (K.out.drew.below hbel) | replace K := Lib.hid ((K.out.drewN _).below hbel)); clear hbel))
    go_ret
    exact ⟨rfl, K.out.since⟩
  have hla := hfa.le
  have hlb := hfb.le
  have hl30 : ∀ i, i < la.length → lenAt la i ≤ 30 := hfa.2.1
  have hm30 : ∀ i, i < lb.length → lenAt lb i ≤ 30 := hfb.2.1
  obtain ⟨X, E, hc1, h1⟩ := dec_out k m has la hk hm hla
  obtain ⟨Y, G, hc2, h2⟩ := dec_out k m has lb hk hm hlb
  obtain ⟨Z, H, hc3, h3⟩ := dec_out k m has (addL la lb) hk hm (le_mapR hla)
  have SC : Hid ((∀ i, i < la.length → lenAt la i = lenAt lb i) → G = E ∧ H = E ∧ (E = 0 → ∃ n L, Eql X n L ∧ Eql Y n L ∧ Eql Z n L ∧ n ≤ 256 ∧ L ≤ 100000 ∧ ∀ a x, a < n → x < L → at2 Z a x = at2 X a x + at2 Y a x)) := fun h => sums_case hc1 hc2 hc3 hab h
  obtain ⟨N, hN⟩ : ∃ N, la.length = N := ⟨_, rfl⟩
  have hM : lb.length = N := by rw [← hab]; exact hN
  have HD1 : Hid (∀ b Ah ch A c w, GfAt w b → Sl w Ah ch (has.map Value.bool) → Rr w A c la → Calls Try.prog 85 #[fp b, .int .i64 k, .int .i64 m, .slice Ah has.length ch, .slice A N c] w (ShR w X E)) := fun b Ah ch A c w hg hh hr => by have := h1 b Ah ch A c w hg hh hr; rw [hN] at this; exact this
  have HD2 : Hid (∀ b Ah ch A c w, GfAt w b → Sl w Ah ch (has.map Value.bool) → Rr w A c lb → Calls Try.prog 85 #[fp b, .int .i64 k, .int .i64 m, .slice Ah has.length ch, .slice A N c] w (ShR w Y G)) := fun b Ah ch A c w hg hh hr => by have := h2 b Ah ch A c w hg hh hr; rw [hM] at this; exact this
  have HD3 : Hid (∀ b Ah ch A c w, GfAt w b → Sl w Ah ch (has.map Value.bool) → Rr w A c (addL la lb) → Calls Try.prog 85 #[fp b, .int .i64 k, .int .i64 m, .slice Ah has.length ch, .slice A N c] w (ShR w Z H)) := fun b Ah ch A c w hg hh hr => by have := h3 b Ah ch A c w hg hh hr; rw [show (addL la lb).length = N from (length_mapR _ _).trans hN] at this; exact this
  have CPY : Hid (∀ A c w, Rr w A c la → Calls Try.prog 79 #[.slice A N c] w fun e w' => ∃ A' c' rs, e = .returned (.slice A' N c') ∧ lsts rs = la ∧ MadeR w w' A' N c' rs) := fun A c w h => by
    obtain ⟨vs, h1, h2⟩ := h.ex
    exact ref06_copied A _ c vs _ w h1 h2 hN (by omega) hla
  rw [hN] at h20 d20 FA SC hl30
  rw [hM] at FB hm30
  rw [hN, hM]
  have HN := Lib.hid hN
  have HM := Lib.hid hM
  have HL30 := Lib.hid hl30
  have HM30 := Lib.hid hm30
  have d0 : ((N : Int) == (N : Int)) = true := by rw [beq_iff_eq]
  have d1 : ((N : Int) != (N : Int)) = false := by rw [bne_self_eq_false]
  clear hc1 hc2 hc3 h1 h2 h3 hfa hfb hla hlb hab hN hM hl30 hm30
  have K := Lib.hid (Lk.start w)
  replace K := Lib.hid (K.out.rr' ha)
  replace K := Lib.hid (K.out.rr' hb)
  clear ha hb
  go_enter Try.func34, Try.ntmps34
  go_wp2_with (first
    | (go_at_call 84; (with_reducible refine (awake7 _).mono ?_); rintro e w1 ⟨rfl, hbel⟩; (first | replace K := Lib.hid (K.out.below hbel) | replace K := Lib.hid ((K.out.alloc _).below hbel) | replace K := Lib.hid (((K.out.alloc _).alloc _).below hbel) | replace K := Lib.hid ((((K.out.alloc _).alloc _).alloc _).below hbel) | replace K := Lib.hid (((((K.out.alloc _).alloc _).alloc _).alloc _).below hbel) | replace K := Lib.hid (K.out.drew.below hbel) | replace K := Lib.hid ((K.out.drewN _).below hbel)); clear hbel)
    | (go_at_call 37; (with_reducible refine (new_any _).mono ?_); rintro e w2 ⟨rfl, hbel, hg⟩; (first | replace K := Lib.hid (K.out.below hbel) | replace K := Lib.hid ((K.out.alloc _).below hbel) | replace K := Lib.hid (((K.out.alloc _).alloc _).below hbel) | replace K := Lib.hid ((((K.out.alloc _).alloc _).alloc _).below hbel) | replace K := Lib.hid (((((K.out.alloc _).alloc _).alloc _).alloc _).below hbel) | replace K := Lib.hid (K.out.drew.below hbel) | replace K := Lib.hid ((K.out.drewN _).below hbel)); clear hbel; replace K := Lib.hid (K.out.withF hg); clear hg)
    | (go_at_call 70; (with_reducible refine (FA.out _ _ _ ?_).mono ?_); (first | exact K.out.at (.tail _ (.head _)) | exact (K.out.alloc _).at (.tail _ (.head _)) | exact ((K.out.alloc _).alloc _).at (.tail _ (.head _)) | exact (((K.out.alloc _).alloc _).alloc _).at (.tail _ (.head _)) | exact ((((K.out.alloc _).alloc _).alloc _).alloc _).at (.tail _ (.head _)) | exact K.out.drew.at (.tail _ (.head _)) | exact (K.out.drewN _).at (.tail _ (.head _))); rintro e w3 ⟨rfl, hbel⟩; (first | replace K := Lib.hid (K.out.below hbel) | replace K := Lib.hid ((K.out.alloc _).below hbel) | replace K := Lib.hid (((K.out.alloc _).alloc _).below hbel) | replace K := Lib.hid ((((K.out.alloc _).alloc _).alloc _).below hbel) | replace K := Lib.hid (((((K.out.alloc _).alloc _).alloc _).alloc _).below hbel) | replace K := Lib.hid (K.out.drew.below hbel) | replace K := Lib.hid ((K.out.drewN _).below hbel)); clear hbel)
    | (go_at_call 70; (with_reducible refine (FB.out _ _ _ ?_).mono ?_); (first | exact K.out.at (.head _) | exact (K.out.alloc _).at (.head _) | exact ((K.out.alloc _).alloc _).at (.head _) | exact (((K.out.alloc _).alloc _).alloc _).at (.head _) | exact ((((K.out.alloc _).alloc _).alloc _).alloc _).at (.head _) | exact K.out.drew.at (.head _) | exact (K.out.drewN _).at (.head _)); rintro e w4 ⟨rfl, hbel⟩; (first | replace K := Lib.hid (K.out.below hbel) | replace K := Lib.hid ((K.out.alloc _).below hbel) | replace K := Lib.hid (((K.out.alloc _).alloc _).below hbel) | replace K := Lib.hid ((((K.out.alloc _).alloc _).alloc _).below hbel) | replace K := Lib.hid (((((K.out.alloc _).alloc _).alloc _).alloc _).below hbel) | replace K := Lib.hid (K.out.drew.below hbel) | replace K := Lib.hid ((K.out.drewN _).below hbel)); clear hbel)
    | (go_at_call 79; (with_reducible refine (CPY.out _ _ _ ?_).mono ?_); (first | exact K.out.at (.tail _ (.head _)) | exact (K.out.alloc _).at (.tail _ (.head _)) | exact ((K.out.alloc _).alloc _).at (.tail _ (.head _)) | exact (((K.out.alloc _).alloc _).alloc _).at (.tail _ (.head _)) | exact ((((K.out.alloc _).alloc _).alloc _).alloc _).at (.tail _ (.head _)) | exact K.out.drew.at (.tail _ (.head _)) | exact (K.out.drewN _).at (.tail _ (.head _))); rintro e w9 ⟨A0, c0, rs0, rfl, hls, hmr⟩; have HL0 := Lib.hid hls; have M0 := Lib.hid hmr; clear hls hmr))
  have KEEP : Hid (Keeps rs0 (EncI w4 A0 N c0 [] (vals rs0) [])) := EncI.keeps (w5 := w9) (rs0 := []) M0.out.gr M0.out.sp (Kn.nothing _) (fun x hx => by cases hx)
  have ENC : Hid (EncI w4 A0 N c0 [] (vals rs0) [] w9) := ⟨M0.out.bel, M0.out.sp, Grid.nil _ _, Kn.nothing _⟩
  have GP : Hid (Grid w9 w4.heap.size (rowsT rs0 (addE lb) 0 0)) := by rw [rowsT_zero]; exact M0.out.gr
  have HRS : Hid (rs0.length = N) := by show _ = _; rw [← length_lsts, HL0.out, HN.out]
  clear M0 CPY
  go_loopw [16] (fun v wr => ∃ i : Nat, i ≤ N ∧ v = .int .i64 i ∧ EncI w4 A0 N c0 [] (vals rs0) [] wr ∧ Grid wr w4.heap.size (rowsT rs0 (addE lb) i 0) ∧ ∀ j, j < i → lenAt la j = lenAt lb j) (fun v _ => N - (intOf v).toNat)
  case atStart => exact ⟨0, Nat.zero_le _, rfl, ENC.out, GP.out, fun j h => absurd h (Nat.not_lt_zero j)⟩
  case round =>
    clear ENC GP
    obtain ⟨i, hi, rfl, hI, hgr, hal⟩ := hrel
    have EI := Lib.hid hI
    have GI := Lib.hid hgr
    have HAL := Lib.hid hal
    clear hI hgr hal
    by_cases hlt : i < N
    · have hit : (i : Int) < (N : Int) := by omega
      obtain ⟨ba, oa, A2, c2, hA, ya, _⟩ := (Rr.below (K.out.at (.tail _ (.head _))) EI.out.bel).get (i := i) (by rw [HN.out]; exact hlt)
      subst hA
      obtain ⟨bb, ob, A3, c3, hA, yb, _⟩ := (Rr.below (K.out.at (.head _)) EI.out.bel).get (i := i) (by rw [HM.out]; exact hlt)
      subst hA
      have hp30 := HL30.out i hlt
      have hq30 := HM30.out i hlt
      by_cases he : lenAt la i = lenAt lb i
      rotate_left
      · have e0 : ((lenAt la i : Int) == (lenAt lb i : Int)) = false := by rw [beq_eq_false_iff_ne]; omega
        have e1 : ((lenAt la i : Int) != (lenAt lb i : Int)) = true := by rw [bne_iff_ne]; omega
        clear he
        generalize lenAt la i = p at *
        generalize lenAt lb i = q at *
        have BF := Lib.hid ((K.out.below EI.out.bel).drewN 1).since
        go_wp2
        go_quiet (fail)
        go_wp2
        go_ret
        exact ⟨rfl, ((K.out.below EI.out.bel).drewN _).since⟩
      · have HAL2 : Hid (∀ j, j < i + 1 → lenAt la j = lenAt lb j) := fun j hj => by
          rcases Nat.lt_or_ge j i with h | h
          · exact HAL.out j h
          · rw [show j = i by omega]; exact he
        obtain ⟨r, hr⟩ : ∃ r, rs0[i]? = some r := ⟨rs0[i]'(by rw [HRS.out]; exact hlt), List.getElem?_eq_getElem _⟩
        obtain ⟨P, hP⟩ : ∃ P, lenAt lb i = P := ⟨_, rfl⟩
        have hPr : r.2.2.length = P := by
          have := lsts_at HL0.out hr
          rw [← hP, ← he]
          unfold lenAt
          rw [List.getD_eq_getElem?_getD, this]; rfl
        have HRV : Hid ((vals rs0)[i]? = some (.slice r.1 P r.2.1)) := by show _ = _; unfold vals; rw [List.getElem?_map, hr, ← hPr]; rfl
        rw [he, hP] at ya hp30
        rw [hP] at yb hq30
        have e0 : ((P : Int) == (P : Int)) = true := by rw [beq_iff_eq]
        have e1 : ((P : Int) != (P : Int)) = false := by rw [bne_self_eq_false]
        have HRI := Lib.hid hr
        have HP := Lib.hid hP
        have HPR := Lib.hid hPr
        clear hr hP hPr he
        go_wp2
        go_quiet (fail)
        go_wp2
        have EID := Lib.hid (KEEP.out.d wr 1 EI.out)
        have GID : Hid (Grid (wr.drewN 1) w4.heap.size (rowsT rs0 (addE lb) i 0)) := GI.out.below (below_drew0 wr 1)
        clear ya yb
        go_loopw [17] (fun v wi => ∃ x : Nat, x ≤ P ∧ v = .int .i64 x ∧ EncI w4 A0 N c0 [] (vals rs0) [] wi ∧ Grid wi w4.heap.size (rowsT rs0 (addE lb) i x)) (fun v _ => P - (intOf v).toNat)
        case atStart => exact ⟨0, Nat.zero_le _, rfl, KEEP.out.d wr _ EI.out, GI.out.below (below_drew0 wr _)⟩
        case round =>
          rename World => wi
          clear EI GI EID GID
          obtain ⟨x, hx, rfl, hI, hgr⟩ := hrel
          have EI := Lib.hid hI
          have GI := Lib.hid hgr
          clear hI hgr
          obtain ⟨b1, o1, hA1, _, hc1⟩ := Sl.at' (own_sl EI.out.sp) (by rw [length_vals, HRS.out]; omega)
          have y1 := hc1 i _ HRV.out
          subst hA1
          obtain ⟨bb', ob', A3', c3', hA, y2, h6⟩ := (Rr.below (K.out.at (.head _)) EI.out.bel).get (i := i) (by rw [HM.out]; exact hlt)
          injection hA with hA
          obtain ⟨rfl, rfl⟩ : bb = bb' ∧ ob = ob' := by injection hA with e1 e2; exact ⟨e1, e2⟩
          rw [HP.out] at y2
          have H6 := Lib.hid h6
          clear hc1 hA h6
          by_cases hxP : x < P
          rotate_left
          · have hxt : ¬ (x : Int) < (P : Int) := by omega
            have NEXT : Hid (rowsT rs0 (addE lb) i x = rowsT rs0 (addE lb) (i + 1) 0) := rowsT_next_full _ fun r' hr' => by
              have e : r' = r := Option.some.inj (hr'.symm.trans HRI.out)
              rw [e, HPR.out]; omega
            go_wp2
            go_roundw
            case rel => exact ⟨i + 1, by omega, by go_num, EI.out, by rw [← NEXT.out]; exact GI.out, HAL2.out⟩
            case measure => simp [intOf]; omega
          have hxt : (x : Int) < (P : Int) := by omega
          obtain ⟨g, hgA, hcl, hfz, hst⟩ := grid_put KEEP.out EI.out GI.out HRI.out (by rw [HPR.out]; exact hxP)
          have HST : Hid (∀ nd, EncI w4 (some ⟨b1, o1, none⟩) N c0 [] (vals rs0) [] ((wi.drewN nd).setCell ⟨g, x, none⟩ (bv (r.2.2.getD x 0 + (lb.getD i []).getD x 0))) ∧ Grid ((wi.drewN nd).setCell ⟨g, x, none⟩ (bv (r.2.2.getD x 0 + (lb.getD i []).getD x 0))) w4.heap.size (rowsT rs0 (addE lb) i (x + 1))) := hst
          rw [hgA] at y1
          obtain ⟨b4, o4, hA4, _, hc4⟩ := Bs.at' H6.out (by have : (lb.getD i []).length = P := HP.out; omega)
          subst hA4
          have y4 := hc4 x (by have : (lb.getD i []).length = P := HP.out; omega)
          clear hc4 hst
          generalize (lb.getD i []).getD x 0 = y at *
          generalize r.2.2.getD x 0 = u at *
          have hx2 := xor_n u y
          go_wp2
          refine wp_region_still_tail 21 (by kernel_rfl) (by kernel_rfl) ?_
          simp only [List.take_succ_cons, List.take_zero, List.drop_succ_cons, List.drop_zero]
          repeat still_step
          refine wpStill_nil ?_
          change wpList _ _ _ _ _ wi.drew
          go_wp2
          go_roundw
          case rel => exact ⟨x + 1, by omega, by go_num, (HST.out 1).1, (HST.out 1).2⟩
          case measure => simp [intOf]; omega
    · obtain rfl : i = N := by omega
      have hit : ¬ (i : Int) < (i : Int) := by omega
      obtain ⟨hge, hhe, hz⟩ := SC.out fun j hj => HAL.out j hj
      subst hge
      subst hhe
      have HZ := Lib.hid hz
      clear hz
      have hls : lsts (rowsT rs0 (addE lb) i 0) = addL la lb := by
        rw [lsts_rowsT_all _ (by rw [HRS.out]; exact Nat.le_refl _), HL0.out]; rfl
      have hmd : MadeR w4 wr A0 i c0 (rowsT rs0 (addE lb) i 0) := ⟨by rw [vals_rowsT]; exact EI.out.sp, GI.out, EI.out.bel⟩
      replace K := Lib.hid ((K.out.below hmd.bel).rr' (hmd.rr hls))
      clear hls hmd EI GI
      by_cases hE : H = 0
      rotate_left
      · have dE0 : (H == 0) = false := by rw [beq_eq_false_iff_ne]; exact hE
        have dE1 : (H != 0) = true := by rw [bne_iff_ne]; exact hE
        have dEE := (beq_iff_eq (a := H) (b := H)).2 rfl
        clear hE
        go_wp2_with (first
          | (go_at_call 85; (with_reducible refine (HD1.out _ _ _ _ _ _ ?_ ?_ ?_).mono ?_); (first | exact K.out.gf | exact (K.out.alloc _).gf | exact K.out.drew.gf | exact ((K.out.alloc _).alloc _).gf | exact (((K.out.alloc _).alloc _).alloc _).gf | exact (((((K.out.alloc _).alloc _).alloc _).alloc _)).gf); (first | exact HH.out.below K.out.since | exact HH.out.below (K.out.alloc _).since | exact HH.out.below ((K.out.alloc _).alloc _).since | exact HH.out.below (((K.out.alloc _).alloc _).alloc _).since | exact HH.out.below ((((K.out.alloc _).alloc _).alloc _).alloc _).since | exact HH.out.below K.out.drew.since | exact HH.out.below (K.out.drewN _).since); (first | exact K.out.at (.tail _ (.tail _ (.head _))) | exact (K.out.alloc _).at (.tail _ (.tail _ (.head _))) | exact ((K.out.alloc _).alloc _).at (.tail _ (.tail _ (.head _))) | exact (((K.out.alloc _).alloc _).alloc _).at (.tail _ (.tail _ (.head _))) | exact ((((K.out.alloc _).alloc _).alloc _).alloc _).at (.tail _ (.tail _ (.head _))) | exact K.out.drew.at (.tail _ (.tail _ (.head _))) | exact (K.out.drewN _).at (.tail _ (.tail _ (.head _)))); rintro e w5 ⟨Ax, cx, rfl, hr, hbel⟩; (first | replace K := Lib.hid (K.out.below hbel) | replace K := Lib.hid ((K.out.alloc _).below hbel) | replace K := Lib.hid (((K.out.alloc _).alloc _).below hbel) | replace K := Lib.hid ((((K.out.alloc _).alloc _).alloc _).below hbel) | replace K := Lib.hid (((((K.out.alloc _).alloc _).alloc _).alloc _).below hbel) | replace K := Lib.hid (K.out.drew.below hbel) | replace K := Lib.hid ((K.out.drewN _).below hbel)); replace K := Lib.hid (K.out.rr' hr); clear hr; clear hbel)
          | (go_at_call 85; (with_reducible refine (HD2.out _ _ _ _ _ _ ?_ ?_ ?_).mono ?_); (first | exact K.out.gf | exact (K.out.alloc _).gf | exact K.out.drew.gf | exact ((K.out.alloc _).alloc _).gf | exact (((K.out.alloc _).alloc _).alloc _).gf | exact (((((K.out.alloc _).alloc _).alloc _).alloc _)).gf); (first | exact HH.out.below K.out.since | exact HH.out.below (K.out.alloc _).since | exact HH.out.below ((K.out.alloc _).alloc _).since | exact HH.out.below (((K.out.alloc _).alloc _).alloc _).since | exact HH.out.below ((((K.out.alloc _).alloc _).alloc _).alloc _).since | exact HH.out.below K.out.drew.since | exact HH.out.below (K.out.drewN _).since); (first | exact K.out.at (.tail _ (.tail _ (.head _))) | exact (K.out.alloc _).at (.tail _ (.tail _ (.head _))) | exact ((K.out.alloc _).alloc _).at (.tail _ (.tail _ (.head _))) | exact (((K.out.alloc _).alloc _).alloc _).at (.tail _ (.tail _ (.head _))) | exact ((((K.out.alloc _).alloc _).alloc _).alloc _).at (.tail _ (.tail _ (.head _))) | exact K.out.drew.at (.tail _ (.tail _ (.head _))) | exact (K.out.drewN _).at (.tail _ (.tail _ (.head _)))); rintro e w6 ⟨Ay, cy, rfl, hr, hbel⟩; (first | replace K := Lib.hid (K.out.below hbel) | replace K := Lib.hid ((K.out.alloc _).below hbel) | replace K := Lib.hid (((K.out.alloc _).alloc _).below hbel) | replace K := Lib.hid ((((K.out.alloc _).alloc _).alloc _).below hbel) | replace K := Lib.hid (((((K.out.alloc _).alloc _).alloc _).alloc _).below hbel) | replace K := Lib.hid (K.out.drew.below hbel) | replace K := Lib.hid ((K.out.drewN _).below hbel)); replace K := Lib.hid (K.out.rr' hr); clear hr; clear hbel)
          | (go_at_call 85; (with_reducible refine (HD3.out _ _ _ _ _ _ ?_ ?_ ?_).mono ?_); (first | exact K.out.gf | exact (K.out.alloc _).gf | exact K.out.drew.gf | exact ((K.out.alloc _).alloc _).gf | exact (((K.out.alloc _).alloc _).alloc _).gf | exact (((((K.out.alloc _).alloc _).alloc _).alloc _)).gf); (first | exact HH.out.below K.out.since | exact HH.out.below (K.out.alloc _).since | exact HH.out.below ((K.out.alloc _).alloc _).since | exact HH.out.below (((K.out.alloc _).alloc _).alloc _).since | exact HH.out.below ((((K.out.alloc _).alloc _).alloc _).alloc _).since | exact HH.out.below K.out.drew.since | exact HH.out.below (K.out.drewN _).since); (first | exact K.out.at (.tail _ (.tail _ (.head _))) | exact (K.out.alloc _).at (.tail _ (.tail _ (.head _))) | exact ((K.out.alloc _).alloc _).at (.tail _ (.tail _ (.head _))) | exact (((K.out.alloc _).alloc _).alloc _).at (.tail _ (.tail _ (.head _))) | exact ((((K.out.alloc _).alloc _).alloc _).alloc _).at (.tail _ (.tail _ (.head _))) | exact K.out.drew.at (.tail _ (.tail _ (.head _))) | exact (K.out.drewN _).at (.tail _ (.tail _ (.head _)))); rintro e w7 ⟨Az, cz, rfl, hr, hbel⟩; (first | replace K := Lib.hid (K.out.below hbel) | replace K := Lib.hid ((K.out.alloc _).below hbel) | replace K := Lib.hid (((K.out.alloc _).alloc _).below hbel) | replace K := Lib.hid ((((K.out.alloc _).alloc _).alloc _).below hbel) | replace K := Lib.hid (((((K.out.alloc _).alloc _).alloc _).alloc _).below hbel) | replace K := Lib.hid (K.out.drew.below hbel) | replace K := Lib.hid ((K.out.drewN _).below hbel)); replace K := Lib.hid (K.out.rr' hr); clear hr; clear hbel))
        go_ret
        exact ⟨rfl, K.out.since⟩
      subst hE
      obtain ⟨n, Q, qX, qY, qZ, hn256, hQ, hat⟩ := HZ.out rfl
      have hxl := qX.len
      have hyl := qY.len
      have hzl := qZ.len
      have dx0 : ((X.length : Int) == (Z.length : Int)) = true := by rw [beq_iff_eq]; omega
      have dx1 : ((X.length : Int) != (Z.length : Int)) = false := by rw [bne_eq_false_iff_eq]; omega
      have dy0 : ((Y.length : Int) == (Z.length : Int)) = true := by rw [beq_iff_eq]; omega
      have dy1 : ((Y.length : Int) != (Z.length : Int)) = false := by rw [bne_eq_false_iff_eq]; omega
      have hxz : X.length = Z.length := by omega
      have hyz : Y.length = Z.length := by omega
      have hz256 : Z.length ≤ 256 := by omega
      have HXZ := Lib.hid hxz
      have HYZ := Lib.hid hyz
      have RX : Hid (∀ a, a < Z.length → lenAt X a = Q) := fun a ha => qX.row a (by omega)
      have RY : Hid (∀ a, a < Z.length → lenAt Y a = Q) := fun a ha => qY.row a (by omega)
      have RZ : Hid (∀ a, a < Z.length → lenAt Z a = Q) := fun a ha => qZ.row a (by omega)
      have HAT : Hid (∀ a x, a < Z.length → x < Q → at2 Z a x = at2 X a x + at2 Y a x) := fun a x ha hx => hat a x (by omega) hx
      clear qX qY qZ hxl hyl hzl hxz hyz hat HZ
      go_wp2_with (first
        | (go_at_call 85; (with_reducible refine (HD1.out _ _ _ _ _ _ ?_ ?_ ?_).mono ?_); (first | exact K.out.gf | exact (K.out.alloc _).gf | exact K.out.drew.gf | exact ((K.out.alloc _).alloc _).gf | exact (((K.out.alloc _).alloc _).alloc _).gf | exact (((((K.out.alloc _).alloc _).alloc _).alloc _)).gf); (first | exact HH.out.below K.out.since | exact HH.out.below (K.out.alloc _).since | exact HH.out.below ((K.out.alloc _).alloc _).since | exact HH.out.below (((K.out.alloc _).alloc _).alloc _).since | exact HH.out.below ((((K.out.alloc _).alloc _).alloc _).alloc _).since | exact HH.out.below K.out.drew.since | exact HH.out.below (K.out.drewN _).since); (first | exact K.out.at (.tail _ (.tail _ (.head _))) | exact (K.out.alloc _).at (.tail _ (.tail _ (.head _))) | exact ((K.out.alloc _).alloc _).at (.tail _ (.tail _ (.head _))) | exact (((K.out.alloc _).alloc _).alloc _).at (.tail _ (.tail _ (.head _))) | exact ((((K.out.alloc _).alloc _).alloc _).alloc _).at (.tail _ (.tail _ (.head _))) | exact K.out.drew.at (.tail _ (.tail _ (.head _))) | exact (K.out.drewN _).at (.tail _ (.tail _ (.head _)))); rintro e w5 ⟨Ax, cx, rfl, hr, hbel⟩; (first | replace K := Lib.hid (K.out.below hbel) | replace K := Lib.hid ((K.out.alloc _).below hbel) | replace K := Lib.hid (((K.out.alloc _).alloc _).below hbel) | replace K := Lib.hid ((((K.out.alloc _).alloc _).alloc _).below hbel) | replace K := Lib.hid (((((K.out.alloc _).alloc _).alloc _).alloc _).below hbel) | replace K := Lib.hid (K.out.drew.below hbel) | replace K := Lib.hid ((K.out.drewN _).below hbel)); replace K := Lib.hid (K.out.rr' hr); clear hr; clear hbel)
        | (go_at_call 85; (with_reducible refine (HD2.out _ _ _ _ _ _ ?_ ?_ ?_).mono ?_); (first | exact K.out.gf | exact (K.out.alloc _).gf | exact K.out.drew.gf | exact ((K.out.alloc _).alloc _).gf | exact (((K.out.alloc _).alloc _).alloc _).gf | exact (((((K.out.alloc _).alloc _).alloc _).alloc _)).gf); (first | exact HH.out.below K.out.since | exact HH.out.below (K.out.alloc _).since | exact HH.out.below ((K.out.alloc _).alloc _).since | exact HH.out.below (((K.out.alloc _).alloc _).alloc _).since | exact HH.out.below ((((K.out.alloc _).alloc _).alloc _).alloc _).since | exact HH.out.below K.out.drew.since | exact HH.out.below (K.out.drewN _).since); (first | exact K.out.at (.tail _ (.tail _ (.head _))) | exact (K.out.alloc _).at (.tail _ (.tail _ (.head _))) | exact ((K.out.alloc _).alloc _).at (.tail _ (.tail _ (.head _))) | exact (((K.out.alloc _).alloc _).alloc _).at (.tail _ (.tail _ (.head _))) | exact ((((K.out.alloc _).alloc _).alloc _).alloc _).at (.tail _ (.tail _ (.head _))) | exact K.out.drew.at (.tail _ (.tail _ (.head _))) | exact (K.out.drewN _).at (.tail _ (.tail _ (.head _)))); rintro e w6 ⟨Ay, cy, rfl, hr, hbel⟩; (first | replace K := Lib.hid (K.out.below hbel) | replace K := Lib.hid ((K.out.alloc _).below hbel) | replace K := Lib.hid (((K.out.alloc _).alloc _).below hbel) | replace K := Lib.hid ((((K.out.alloc _).alloc _).alloc _).below hbel) | replace K := Lib.hid (((((K.out.alloc _).alloc _).alloc _).alloc _).below hbel) | replace K := Lib.hid (K.out.drew.below hbel) | replace K := Lib.hid ((K.out.drewN _).below hbel)); replace K := Lib.hid (K.out.rr' hr); clear hr; clear hbel)
        | (go_at_call 85; (with_reducible refine (HD3.out _ _ _ _ _ _ ?_ ?_ ?_).mono ?_); (first | exact K.out.gf | exact (K.out.alloc _).gf | exact K.out.drew.gf | exact ((K.out.alloc _).alloc _).gf | exact (((K.out.alloc _).alloc _).alloc _).gf | exact (((((K.out.alloc _).alloc _).alloc _).alloc _)).gf); (first | exact HH.out.below K.out.since | exact HH.out.below (K.out.alloc _).since | exact HH.out.below ((K.out.alloc _).alloc _).since | exact HH.out.below (((K.out.alloc _).alloc _).alloc _).since | exact HH.out.below ((((K.out.alloc _).alloc _).alloc _).alloc _).since | exact HH.out.below K.out.drew.since | exact HH.out.below (K.out.drewN _).since); (first | exact K.out.at (.tail _ (.tail _ (.head _))) | exact (K.out.alloc _).at (.tail _ (.tail _ (.head _))) | exact ((K.out.alloc _).alloc _).at (.tail _ (.tail _ (.head _))) | exact (((K.out.alloc _).alloc _).alloc _).at (.tail _ (.tail _ (.head _))) | exact ((((K.out.alloc _).alloc _).alloc _).alloc _).at (.tail _ (.tail _ (.head _))) | exact K.out.drew.at (.tail _ (.tail _ (.head _))) | exact (K.out.drewN _).at (.tail _ (.tail _ (.head _)))); rintro e w7 ⟨Az, cz, rfl, hr, hbel⟩; (first | replace K := Lib.hid (K.out.below hbel) | replace K := Lib.hid ((K.out.alloc _).below hbel) | replace K := Lib.hid (((K.out.alloc _).alloc _).below hbel) | replace K := Lib.hid ((((K.out.alloc _).alloc _).alloc _).below hbel) | replace K := Lib.hid (((((K.out.alloc _).alloc _).alloc _).alloc _).below hbel) | replace K := Lib.hid (K.out.drew.below hbel) | replace K := Lib.hid ((K.out.drewN _).below hbel)); replace K := Lib.hid (K.out.rr' hr); clear hr; clear hbel))
      have S0 := Lib.hid (Since.refl w7)
      go_loopw [24] (fun v wj => ∃ a : Nat, a ≤ Z.length ∧ v = .int .i64 a ∧ Since w7 wj) (fun v _ => Z.length - (intOf v).toNat)
      case atStart => exact ⟨0, Nat.zero_le _, rfl, S0.out⟩
      case round =>
        rename World => wj
        clear S0
        obtain ⟨a, ha, rfl, hs⟩ := hrel
        have S1 := Lib.hid hs
        clear hs
        by_cases hlz : a < Z.length
        · have hat : (a : Int) < (Z.length : Int) := by omega
          have hax : (a : Int) < (X.length : Int) := by have := HXZ.out; omega
          have hay : (a : Int) < (Y.length : Int) := by have := HYZ.out; omega
          obtain ⟨b1, o1, A5, c5, hA, y1, _⟩ := ((K.out.below S1.out).at (.tail _ (.tail _ (.head _)))).get (i := a) (by rw [HXZ.out]; exact hlz)
          subst hA
          obtain ⟨b2, o2, A6, c6, hA, y2, _⟩ := ((K.out.below S1.out).at (.tail _ (.head _))).get (i := a) (by rw [HYZ.out]; exact hlz)
          subst hA
          obtain ⟨b3, o3, A7, c7, hA, y3, _⟩ := ((K.out.below S1.out).at (.head _)).get (i := a) hlz
          subst hA
          rw [RX.out a hlz] at y1
          rw [RY.out a hlz] at y2
          rw [RZ.out a hlz] at y3
          have e0 : ((Q : Int) == (Q : Int)) = true := by rw [beq_iff_eq]
          have e1 : ((Q : Int) != (Q : Int)) = false := by rw [bne_self_eq_false]
          go_wp2
          go_quiet (fail)
          go_wp2
          clear y1 y2 y3
          go_loopw [25] (fun v wk => ∃ x : Nat, x ≤ Q ∧ v = .int .i64 x ∧ Since w7 wk) (fun v _ => Q - (intOf v).toNat)
          case atStart => exact ⟨0, Nat.zero_le _, rfl, S1.out.drewN _⟩
          case round =>
            rename World => wk
            clear S1
            obtain ⟨x, hx, rfl, hs⟩ := hrel
            have S1 := Lib.hid hs
            clear hs
            obtain ⟨b1', o1', A5, c5, hA, y1, h1⟩ := ((K.out.below S1.out).at (.tail _ (.tail _ (.head _)))).get (i := a) (by rw [HXZ.out]; exact hlz)
            injection hA with hA
            obtain ⟨rfl, rfl⟩ : b1 = b1' ∧ o1 = o1' := by injection hA with e1 e2; exact ⟨e1, e2⟩
            clear hA
            obtain ⟨b2', o2', A6, c6, hA, y2, h2⟩ := ((K.out.below S1.out).at (.tail _ (.head _))).get (i := a) (by rw [HYZ.out]; exact hlz)
            injection hA with hA
            obtain ⟨rfl, rfl⟩ : b2 = b2' ∧ o2 = o2' := by injection hA with e1 e2; exact ⟨e1, e2⟩
            clear hA
            obtain ⟨b3', o3', A7, c7, hA, y3, h3⟩ := ((K.out.below S1.out).at (.head _)).get (i := a) hlz
            injection hA with hA
            obtain ⟨rfl, rfl⟩ : b3 = b3' ∧ o3 = o3' := by injection hA with e1 e2; exact ⟨e1, e2⟩
            clear hA
            rw [RX.out a hlz] at y1
            rw [RY.out a hlz] at y2
            rw [RZ.out a hlz] at y3
            have H1 := Lib.hid h1
            have H2 := Lib.hid h2
            have H3 := Lib.hid h3
            clear h1 h2 h3
            by_cases hxQ : x < Q
            · have hxt : (x : Int) < (Q : Int) := by omega
              obtain ⟨b4, o4, hA, _, hc⟩ := Bs.at' H1.out (by have : (X.getD a []).length = Q := RX.out a hlz; omega)
              subst hA
              have y4 := hc x (by have : (X.getD a []).length = Q := RX.out a hlz; omega)
              obtain ⟨b5, o5, hA, _, hc'⟩ := Bs.at' H2.out (by have : (Y.getD a []).length = Q := RY.out a hlz; omega)
              subst hA
              have y5 := hc' x (by have : (Y.getD a []).length = Q := RY.out a hlz; omega)
              obtain ⟨b6, o6, hA, _, hc''⟩ := Bs.at' H3.out (by have : (Z.getD a []).length = Q := RZ.out a hlz; omega)
              subst hA
              have y6 := hc'' x (by have : (Z.getD a []).length = Q := RZ.out a hlz; omega)
              rw [show (Z.getD a []).getD x 0 = (X.getD a []).getD x 0 + (Y.getD a []).getD x 0 from HAT.out a x hlz hxQ] at y6
              clear hc hc' hc''
              generalize (X.getD a []).getD x 0 = xv at *
              generalize (Y.getD a []).getD x 0 = yv at *
              have hxo := xor_n xv yv
              have dv0 := beq_n (rfl : xv + yv = xv + yv)
              have dv1 := neq_n (rfl : xv + yv = xv + yv)
              go_wp2
              go_quiet (fail)
              go_wp2
              go_roundw
              case rel => exact ⟨x + 1, by omega, by go_num, S1.out.drewN _⟩
              case measure => simp [intOf]; omega
            · have hxt : ¬ (x : Int) < (Q : Int) := by omega
              go_wp2
              go_roundw
              case rel => exact ⟨a + 1, by omega, by go_num, S1.out⟩
              case measure => simp [intOf]; omega
        · have hat : ¬ (a : Int) < (Z.length : Int) := by omega
          go_wp2
          go_ret
          exact ⟨rfl, (K.out.below S1.out).since⟩
end Go.Proofs.Ytmkjplpnoohfnaa
