/- erase.Decode where shards that are missing are anything; count; lists of bools; one shard of a list. -/
import Derived.Test.YtmkjplpnoohfnaaLaw07c
namespace Go.Proofs.Ytmkjplpnoohfnaa
open Go.RowKit
set_option linter.unusedVariables false
set_option linter.unusedSimpArgs false
theorem dec_out_g (k m : Int) (has : List Bool) (ls : List (List F)) (hk : i64ok k) (hm : i64ok m) (hl : ∀ i, i ∈ idx has has.length → lenAt ls i ≤ 100000) : ∃ X E, DecCase k m has ls X E ∧
    ∀ b Ah ch A c w, GfAt w b → Sl w Ah ch (has.map Value.bool) → Rr w A c ls → Calls Try.prog 85 #[fp b, .int .i64 k, .int .i64 m, .slice Ah has.length ch, .slice A ls.length c] w (ShR w X E) := by
  by_cases hkm : okkm k m
  rotate_left
  · exact ⟨[], 50, .inl ⟨hkm, rfl, rfl⟩, fun b Ah ch A c w _ _ _ => (decode_bad b k m Ah _ ch A _ c w hk hm hkm).mono fun e w' ⟨he, hb⟩ => by rw [he]; exact shr_nil 50 hb⟩
  obtain ⟨k, m, rfl, rfl⟩ := okkm_nat hkm
  obtain ⟨g1, g2, g3⟩ := id hkm
  by_cases hn : (has.length : Int) = (k : Int) + (m : Int) ∧ (ls.length : Int) = (k : Int) + (m : Int)
  rotate_left
  · exact ⟨[], 60, .inr (.inl ⟨hkm, hn, rfl, rfl⟩), fun b Ah ch A c w hg _ _ => (decode_len b k m Ah _ ch A _ c w hkm hg hn).mono fun e w' ⟨he, hb⟩ => by rw [he]; exact shr_nil 60 hb⟩
  have hn1 : has.length = k + m := by omega
  have hn2 : ls.length = k + m := by omega
  have FD : ∀ Ah ch A c w, Sl w Ah ch (has.map Value.bool) → Rr w A c ls → Calls Try.prog 116 #[.int .i64 k, .slice Ah (k + m) ch, .slice A (k + m) c] w fun e w' => ∃ L E, FndCase k has ls L E ∧ ∃ A' c', e = .returned (.tuple #[.slice A' L.length c', .int .i64 E]) ∧ Sl w' A' c' (nvs L) ∧ Below w.heap.size w w' := fun Ah ch A c w h1 h2 =>
    erase_found k Ah ch has A c ls (k + m) w h1 h2 hn1 hn2 (by omega) (by omega)
  by_cases hs : SameL has ls has.length
  rotate_left
  · refine ⟨[], 60, .inr (.inr (.inl ⟨hkm, hn, hs, rfl, rfl⟩)), fun b Ah ch A c w hg h1 h2 => ?_⟩
    rw [hn1, hn2]
    refine (decode_fail b k m (k + m) Ah ch has A c ls w hkm hg h1 h2 60 (by decide) rfl fun w' hw => (FD Ah ch A c w' (h1.below hw) (h2.below hw)).mono ?_).mono fun e w' ⟨he, hb⟩ => by rw [he]; exact shr_nil 60 hb
    rintro e w'' ⟨L, E, ⟨_, rfl, rfl⟩ | ⟨h, _⟩ | ⟨h, _⟩, A', c', he, h3, hb⟩
    · exact ⟨A', c', he, hb⟩
    · exact absurd h hs
    · exact absurd h hs
  by_cases hc : k ≤ (idx has has.length).length
  rotate_left
  · refine ⟨[], 70, .inr (.inr (.inr (.inl ⟨hkm, hn, hs, by omega, rfl, rfl⟩))), fun b Ah ch A c w hg h1 h2 => ?_⟩
    rw [hn1, hn2]
    refine (decode_fail b k m (k + m) Ah ch has A c ls w hkm hg h1 h2 70 (by decide) rfl fun w' hw => (FD Ah ch A c w' (h1.below hw) (h2.below hw)).mono ?_).mono fun e w' ⟨he, hb⟩ => by rw [he]; exact shr_nil 70 hb
    rintro e w'' ⟨L, E, ⟨h, _⟩ | ⟨_, _, rfl, rfl⟩ | ⟨_, h, _⟩, A', c', he, h3, hb⟩
    · exact absurd hs h
    · exact ⟨A', c', he, hb⟩
    · exact absurd h hc
  have hL := fst_len (k := k) hc
  have hlt : ∀ x, x ∈ fst k has → x < k + m := fun x hx => by rw [← hn1]; exact fst_lt hx
  have hgi : ∀ i, i < k → (fst k has).getD i 0 ∈ fst k has := fun i hi => getD_mem (by omega)
  have hrow : ∀ i, i < k → lenAt ls ((fst k has).getD i 0) = lenAt ls ((fst k has).getD 0 0) := fun i hi => hs _ _ (fst_mem (hgi i hi)) (fst_mem (hgi 0 (by omega)))
  obtain ⟨Len, hLen⟩ : ∃ Len, lenAt ls ((fst k has).getD 0 0) = Len := ⟨_, rfl⟩
  rw [hLen] at hrow
  have hLb : Len ≤ 100000 := by
    rw [← hLen]
    exact hl _ (fst_mem (hgi 0 (by omega)))
  obtain ⟨V, hV⟩ := pk_inv (k := k) (Ls := fst k has) (by omega) hL (fst_nodup k has) fun x hx => by have := hlt x hx; omega
  refine ⟨enc k m (decD k Len V ls (fst k has)), 0, .inr (.inr (.inr (.inr ⟨hkm, hn, hs, by omega, rfl, decD k Len V ls (fst k has), Len, eql_decD _ _ _ _ _, rfl, hLb, hrow, fun i hi x hx => dec_agree hV (by omega) (fun i hi => hlt _ (hgi i hi)) hi hx⟩))), fun b Ah ch A c w hg h1 h2 => ?_⟩
  rw [hn1, hn2]
  refine decode_main b k m (k + m) Ah ch has A c ls w hkm hg h1 h2 (fst k has) Len V hV rfl hn2 hL (fst_nodup k has) hlt hrow hLb fun w' hw => (FD Ah ch A c w' (h1.below hw) (h2.below hw)).mono ?_
  rintro e w'' ⟨L, E, ⟨h, _⟩ | ⟨_, h, _⟩ | ⟨_, _, rfl, rfl⟩, A', c', he, h3, hb⟩
  · exact absurd hs h
  · omega
  · have hL' : ((idx has has.length).take k).length = k := hL
    rw [hL'] at he
    exact ⟨A', c', he, h3, hb⟩
set_option maxRecDepth 1000000 in
theorem count_out (has : List Bool) (n : Nat) (hn : has.length = n) (hnb : n ≤ 1000) (A : Option Addr) (c : Nat) (w : World) (hh : Sl w A c (has.map Value.bool)) :
    Calls Try.prog 87 #[.slice A n c] w fun e w' => e = .returned (.int .i64 ((idx has n).length : Int)) ∧ Below w.heap.size w w' := by
  have HH := Lib.hid hh
  have HN := Lib.hid hn
  clear hh hn
  go_enter Try.func87, Try.ntmps87
  go_wp2
  go_loopw [3, 4] (fun u v wr => ∃ i : Nat, i ≤ n ∧ v = .int .i64 i ∧ u = .int .i64 ((idx has i).length : Int) ∧ Since w wr) (fun _ v _ => n - (intOf v).toNat)
  case atStart => exact ⟨0, Nat.zero_le _, rfl, rfl, Since.refl _⟩
  case round =>
    obtain ⟨i, hi, rfl, rfl, hs⟩ := hrel
    have S := Lib.hid hs
    clear hs
    by_cases hlt : i < n
    · have hit : (i : Int) < (n : Int) := by omega
      have hcb : (idx has i).length ≤ i := by unfold idx; exact Nat.le_trans (List.length_filter_le _ _) (by simp)
      obtain ⟨bh, oh, hA1, _, hch⟩ := Sl.at' (HH.out.below S.out) (by rw [List.length_map, HN.out]; omega)
      subst hA1
      obtain ⟨q, hq⟩ : ∃ q, has.getD i false = q := ⟨_, rfl⟩
      have yh := hch i (.bool q) (by rw [List.getElem?_map, List.getElem?_eq_getElem (by rw [HN.out]; exact hlt), ← hq, List.getD_eq_getElem?_getD, List.getElem?_eq_getElem (by rw [HN.out]; exact hlt)]; rfl)
      have HQ := Lib.hid hq
      have ISC := Lib.hid (idx_succ has i)
      clear hch hq
      cases q with
      | true =>
        have NS : Hid ((idx has (i + 1)).length = (idx has i).length + 1) := by show _ = _; rw [ISC.out, HQ.out]; simp
        go_wp2
        go_roundw
        case rel => exact ⟨i + 1, by omega, by go_num, by rw [NS.out]; go_num, S.out⟩
        case measure => simp [intOf]; omega
      | false =>
        have NS : Hid ((idx has (i + 1)).length = (idx has i).length) := by show _ = _; rw [ISC.out, HQ.out]; simp
        go_wp2
        go_roundw
        case rel => exact ⟨i + 1, by omega, by go_num, by rw [NS.out], S.out⟩
        case measure => simp [intOf]; omega
    · obtain rfl : i = n := by omega
      have hit : ¬ (i : Int) < (i : Int) := by omega
      go_wp2
      go_ret
      exact ⟨rfl, S.out⟩
theorem Rr.one {w : World} {b o c : Nat} {ls : List (List F)} (h : Rr w (some ⟨b, o, none⟩) c ls) {i : Nat} (hi : i < ls.length) : Rr w (some ⟨b, o + i, none⟩) (c - i) [ls.getD i []] := by
  have hc := h.le.1
  have h1 := (h.drop (k := i) (by omega)).take 1
  have e : rowA (some ⟨b, o, none⟩) c i = some ⟨b, o + i, none⟩ := by
    unfold rowA
    rw [if_neg (by omega)]
    simp [add_at]
  rw [e] at h1
  have e2 : (ls.drop i).take 1 = [ls.getD i []] := by
    rw [List.drop_eq_getElem_cons hi, List.getD_eq_getElem?_getD, List.getElem?_eq_getElem hi]; rfl
  rwa [e2] at h1
theorem info_bool : (Try.prog.info? 4).map (fun i => (i.zero, i.size, i.bytes)) = some (some (.bool false), 1, 1) := by kernel_rfl
theorem make_bools {ops : Array Oper} {rest : List Oper} {o : Oper} {a : Act} {Q : Exit → Act → World → Prop} (w : World) (hg : o.guard = none) (l c : Operand) (hop : o.op = Op.makeSlice 84 l c)
    (kl kc : IntKind) (L C : Int) (N : Nat) (hl : a.eval l = .int kl L) (hc : a.eval c = .int kc C) (hL : L = (N : Int)) (hC : C = (N : Int)) (hN : N ≤ 1000000)
    (hK : ∀ w', w'.ownsRow w.heap.size 4 1 (.slice (some ⟨w.heap.size, 0, none⟩) N N) N (List.replicate N (.bool false)) → Below w.heap.size w w' → wpList Try.prog ops Q rest (a.put o.dst (.slice (some ⟨w.heap.size, 0, none⟩) N N)) w') : wpList Try.prog ops Q (o :: rest) a w := by
  obtain ⟨i0, hi0, hz0, hz1, hz2⟩ := info_parts info_bool
  refine wpList_make_full w hg l c 84 hop w.heap.size 4 i0 _ 1 Try.underlying84 hi0 hz0 hz1 kl kc L C N hl hc hL hC (by rw [hz2]; omega) (by unfold maxLen; omega) (Nat.le_refl _) ?_
  intro w1 hown hgr
  refine hK w1 ?_ ((Below.refl _ _).grown hgr (Nat.le_refl _) (by simp))
  have e : (madeCells (Value.bool false).cells (N * 1)).toList = List.replicate N (.bool false) := by
    rw [show (Value.bool false).cells = #[.bool false] from rfl, Nat.mul_one, toList_madeCells_one]
  rw [e] at hown
  exact hown
/-- rows for others where shards are missing -/
def lostT (X : List (List F)) (has : List Bool) (junk : List F) (i : Nat) : List (List F) := X.mapIdx fun a l => if a < i ∧ has.getD a false = false then junk else l
theorem length_lostT (X : List (List F)) (has : List Bool) (junk : List F) (i : Nat) : (lostT X has junk i).length = X.length := List.length_mapIdx ..
theorem lostT_zero (X : List (List F)) (has : List Bool) (junk : List F) : lostT X has junk 0 = X := by
  refine List.ext_getElem? fun a => ?_
  unfold lostT
  rw [List.getElem?_mapIdx]
  cases X[a]? with
  | none => rfl
  | some l => show some (if a < 0 ∧ has.getD a false = false then junk else l) = some l; rw [if_neg (by omega)]
theorem lostT_skip {X : List (List F)} {has : List Bool} {junk : List F} {i : Nat} (h : has.getD i false = true) : lostT X has junk (i + 1) = lostT X has junk i := by
  refine List.ext_getElem? fun a => ?_
  unfold lostT
  rw [List.getElem?_mapIdx, List.getElem?_mapIdx]
  cases X[a]? with
  | none => rfl
  | some l =>
    show some (if a < i + 1 ∧ has.getD a false = false then junk else l) = some (if a < i ∧ has.getD a false = false then junk else l)
    by_cases e : a = i
    · subst e; rw [if_neg (by rw [h]; rintro ⟨_, q⟩; cases q), if_neg (by omega)]
    · by_cases e2 : a < i ∧ has.getD a false = false
      · rw [if_pos e2, if_pos ⟨by omega, e2.2⟩]
      · rw [if_neg e2, if_neg (fun q => e2 ⟨by omega, q.2⟩)]
theorem lostT_put {X : List (List F)} {has : List Bool} {junk : List F} {i : Nat} (h : has.getD i false = false) (hi : i < X.length) : (lostT X has junk i).set i junk = lostT X has junk (i + 1) := by
  refine List.ext_getElem? fun a => ?_
  by_cases e : i = a
  · subst e
    rw [List.getElem?_set_self (by rw [length_lostT]; exact hi)]
    unfold lostT
    rw [List.getElem?_mapIdx, List.getElem?_eq_getElem hi]
    show some junk = some (if i < i + 1 ∧ has.getD i false = false then junk else X[i])
    rw [if_pos ⟨by omega, h⟩]
  · rw [List.getElem?_set_ne e]
    unfold lostT
    rw [List.getElem?_mapIdx, List.getElem?_mapIdx]
    cases X[a]? with
    | none => rfl
    | some l =>
      show some (if a < i ∧ has.getD a false = false then junk else l) = some (if a < i + 1 ∧ has.getD a false = false then junk else l)
      by_cases e2 : a < i ∧ has.getD a false = false
      · rw [if_pos e2, if_pos ⟨by omega, e2.2⟩]
      · rw [if_neg e2, if_neg (fun q => e2 ⟨by omega, q.2⟩)]
theorem lostT_row {X : List (List F)} {has : List Bool} {junk : List F} {i a : Nat} (h : has.getD a false = true) : (lostT X has junk i).getD a [] = X.getD a [] := by
  have e : (lostT X has junk i)[a]? = X[a]? := by
    unfold lostT
    rw [List.getElem?_mapIdx]
    cases X[a]? with
    | none => rfl
    | some l =>
      show some (if a < i ∧ has.getD a false = false then junk else l) = some l
      rw [if_neg (by rw [h]; rintro ⟨_, q⟩; cases q)]
  rw [List.getD_eq_getElem?_getD, e, List.getD_eq_getElem?_getD]
/-- of a stripe any as many shards as data shards make all -/
theorem back_case {k m L : Nat} {has : List Bool} {la Y : List (List F)} {junk : List F} {E : Int} {i : Nat} (hkm : okkm k m) (ha : Eql la k L) (hn : has.length = k + m) (h : DecCase k m has (lostT (enc k m la) has junk i) Y E) :
    (k ≤ (idx has has.length).length → E = 0 ∧ Y = enc k m la) ∧ ((idx has has.length).length < k → E = 70 ∧ Y = []) := by
  obtain ⟨g1, g2, g3⟩ := id hkm
  have hX := ha.enc (show 1 ≤ k by omega) m
  have hrow : ∀ a, a ∈ idx has has.length → (lostT (enc k m la) has junk i).getD a [] = (enc k m la).getD a [] := fun a ha => lostT_row (idx_has ha)
  have hlen : ∀ a, a ∈ idx has has.length → lenAt (lostT (enc k m la) has junk i) a = L := fun a ha => by
    unfold lenAt
    rw [hrow a ha]
    exact hX.row a (by have := idx_lt ha; omega)
  have hS : SameL has (lostT (enc k m la) has junk i) has.length := fun a b ha hb => by rw [hlen a ha, hlen b hb]
  rcases h with ⟨q, _⟩ | ⟨_, q, _⟩ | ⟨_, _, q, _⟩ | ⟨_, _, _, q, rfl, rfl⟩ | ⟨_, _, _, q, rfl, hd⟩
  · exact absurd hkm q
  · exact absurd ⟨by omega, by rw [length_lostT, hX.len]; omega⟩ q
  · exact absurd hS q
  · exact ⟨fun h => by omega, fun _ => ⟨rfl, rfl⟩⟩
  · refine ⟨fun hc => ⟨rfl, ?_⟩, fun h => by omega⟩
    simp only [Int.toNat_natCast] at hd
    have hm0 : ∀ i, i < k → (fst k has).getD i 0 ∈ fst k has := fun i hi => getD_mem (by rw [fst_len hc]; exact hi)
    exact Dec.eq hd (by omega) (by omega) hn hc ha (fun i hi => hlen _ (fst_mem (hm0 i hi))) fun i hi x hx => by
      unfold at2
      rw [hrow _ (fst_mem (hm0 i hi))]
end Go.Proofs.Ytmkjplpnoohfnaa
