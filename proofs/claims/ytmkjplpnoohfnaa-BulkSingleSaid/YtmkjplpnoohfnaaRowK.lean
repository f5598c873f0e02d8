/- bulk.Encode: what it is made of. -/
import Derived.Test.YtmkjplpnoohfnaaRowJ
import Derived.Test.YtmkjplpnoohfnaaRowG
namespace Go.Proofs.Ytmkjplpnoohfnaa
open Go.RowKit
set_option linter.unusedVariables false
set_option linter.unusedSimpArgs false
theorem vals_at {rs rs' : List Row} (hv : vals rs' = vals rs) {i : Nat} {r : Row} (hr : rs'[i]? = some r) : ∃ r', rs[i]? = some r' ∧ rowV r' = rowV r := by
  have e : (vals rs : List Value)[i]? = some (rowV r) := by rw [← hv]; unfold vals; rw [List.getElem?_map, hr]; rfl
  unfold vals at e
  rw [List.getElem?_map] at e
  cases hx : rs[i]? with
  | none => rw [hx] at e; cases e
  | some r' => rw [hx] at e; exact ⟨r', rfl, by simpa using e⟩
theorem Grid.sepV {w : World} {B : Nat} {rs : List Row} (h : Grid w B rs) {rs' : List Row} (hv : vals rs' = vals rs) : ∀ (i j : Nat) (r s : Row), rs'[i]? = some r → rs'[j]? = some s → i ≠ j → ∀ g, (rowV r).ownBlock = some g → (rowV s).ownBlock ≠ some g := by
  intro i j r s hr hs hij g hg
  obtain ⟨r', h1, e1⟩ := vals_at hv hr
  obtain ⟨s', h2, e2⟩ := vals_at hv hs
  rw [← e1] at hg
  rw [← e2]
  exact h.sep i j r' s' h1 h2 hij g hg
theorem vals_length {rs rs' : List Row} (hv : vals rs' = vals rs) : rs'.length = rs.length := by rw [← length_vals, hv, length_vals]
theorem vals_append (rs rs' : List Row) : vals (rs ++ rs') = vals rs ++ vals rs' := List.map_append ..
theorem lsts_append (rs rs' : List Row) : lsts (rs ++ rs') = lsts rs ++ lsts rs' := List.map_append ..
theorem Grid.left {w : World} {B : Nat} {rs rs' : List Row} (h : Grid w B (rs ++ rs')) : Grid w B rs :=
  ⟨fun i r hr => h.own i r (by rw [List.getElem?_append_left (List.getElem?_eq_some_iff.1 hr).1]; exact hr),
   fun i j r s hr hs => h.sep i j r s (by rw [List.getElem?_append_left (List.getElem?_eq_some_iff.1 hr).1]; exact hr) (by rw [List.getElem?_append_left (List.getElem?_eq_some_iff.1 hs).1]; exact hs)⟩
theorem at_right {rs rs' : List Row} {i : Nat} : (rs ++ rs')[rs.length + i]? = rs'[i]? := by
  rw [List.getElem?_append_right (Nat.le_add_right _ _), Nat.add_sub_cancel_left]
theorem Grid.right {w : World} {B : Nat} {rs rs' : List Row} (h : Grid w B (rs ++ rs')) : Grid w B rs' :=
  ⟨fun i r hr => h.own (rs.length + i) r (by rw [at_right]; exact hr),
   fun i j r s hr hs hij => h.sep (rs.length + i) (rs.length + j) r s (by rw [at_right]; exact hr) (by rw [at_right]; exact hs) (by omega)⟩
theorem Grid.join {w w0 : World} {B : Nat} {rs rs' rp : List Row} (h0 : Grid w0 B (rs ++ rp)) (hv : vals rs' = vals rp) (h : Grid w B rs) (h' : Grid w B rs') : Grid w B (rs ++ rs') := by
  refine ⟨fun i r hr => ?_, h0.sepV (by rw [vals_append, vals_append, hv])⟩
  rcases Nat.lt_or_ge i rs.length with e | e
  · rw [List.getElem?_append_left e] at hr; exact h.own i r hr
  · rw [List.getElem?_append_right e] at hr; exact h'.own _ r hr
/-- one row more -/
theorem MadeR.push {w wr w3 w4 : World} {A : Option Addr} {n c : Nat} {rs : List Row} (h : MadeR w wr A n c rs) (hb3 : Below wr.heap.size wr w3) {r : Row} (ho3 : ownR w3 wr.heap.size r) (o : Obj) {A4 : Option Addr} {c4 : Nat}
    (ho4 : w4.ownsRow w.heap.size 28 1 (.slice A4 (n + 1) c4) (n + 1) (vals rs ++ [rowV r])) (hg4 : (w3.alloc o).grownBy w4 (Value.slice A n c).ownBlock) : MadeR w w4 A4 (n + 1) c4 (rs ++ [r]) := by
  have hb5 : Below wr.heap.size wr (w3.alloc o) := hb3.trans ((below_alloc w3 _).mono hb3.size)
  have hs5 := own_below h.sp hb5
  have hg3 := (h.gr.snoc hb3 ho3 h.bel.size).below (below_alloc w3 o)
  exact ⟨by rw [← vals_snoc]; exact ho4, hg3.grown hs5 (by decide) hg4, own_grow (h.bel.trans (hb5.mono h.bel.size)) hs5 hg4 (Nat.le_trans h.bel.size hb5.size)⟩
theorem MadeR.back {w w0 w' : World} {A : Option Addr} {n c : Nat} {rs : List Row} (h : MadeR w0 w' A n c rs) (hb : Below w.heap.size w w0) : MadeR w w' A n c rs :=
  ⟨own_mono h.sp hb.size, h.gr.mono hb.size, hb.trans (h.bel.mono hb.size)⟩
theorem MadeR.below {w w' w2 : World} {A : Option Addr} {n c : Nat} {rs : List Row} (h : MadeR w w' A n c rs) (hb : Below w'.heap.size w' w2) : MadeR w w2 A n c rs :=
  ⟨own_below h.sp hb, h.gr.below hb, h.bel.trans (hb.mono h.bel.size)⟩
theorem MadeR.sl {w w' : World} {A : Option Addr} {n c : Nat} {rs : List Row} (h : MadeR w w' A n c rs) : Sl w' A c (vals rs) := own_sl h.sp
/-- the closure that adds multiples of rows: made -/
theorem adder_make (b : Nat) (m k : Int) (Ap : Option Addr) (np cp : Nat) (A : Option Addr) (n c : Nat) (w : World) :
    Calls Try.prog 111 #[fp b, matV m k Ap np cp, .slice A n c] w fun e w' => ∃ bf bp bt, e = .returned (.func (.func 122) #[] #[.pointer (some ⟨bt, 0, none⟩), .pointer (some ⟨bp, 0, none⟩), .pointer (some ⟨bf, 0, none⟩)]) ∧ Kn w' none [(bf, 23, #[fp b]), (bp, 30, #[.int .i64 m, .int .i64 k, .slice Ap np cp]), (bt, 61, #[.slice A n c])] [] ∧ Below w.heap.size w w' := by
  have K := Lib.hid (kn3 w 23 30 61 #[fp b] #[.int .i64 m, .int .i64 k, .slice Ap np cp] #[.slice A n c])
  have B := Lib.hid (below3 w (.cells #[fp b] 23) (.cells #[.int .i64 m, .int .i64 k, .slice Ap np cp] 30) (.cells #[.slice A n c] 61))
  go_enter Try.func111, Try.ntmps111
  go_wp2
  go_ret
  exact ⟨_, _, _, rfl, K.out, B.out⟩
/-- while multiples are added: what stays -/
structure EncI (W1 : World) (sA : Option Addr) (n c : Nat) (rs0 : List Row) (vs : List Value) (bs : List (Nat × TypeId × Array Value)) (wx : World) : Prop where
  bel : Below W1.heap.size W1 wx
  sp : wx.ownsRow W1.heap.size 28 1 (.slice sA n c) n vs
  gr : Grid wx W1.heap.size rs0
  kn : Kn wx none bs []
theorem EncI.keeps {W1 w5 : World} {sA : Option Addr} {n c : Nat} {rs0 rp : List Row} {vs : List Value} {bs : List (Nat × TypeId × Array Value)} (hgr : Grid w5 W1.heap.size (rs0 ++ rp)) (hsp : w5.ownsRow W1.heap.size 28 1 (.slice sA n c) n vs) (hkn : Kn w5 none bs []) (hbs : ∀ x, x ∈ bs → x.2.1 ≠ 5) : Keeps rp (EncI W1 sA n c rs0 vs bs) := by
  refine ⟨fun w n h => ⟨h.bel.trans ((below_drew0 w n).mono h.bel.size), own_drewN h.sp n, h.gr.below (below_drew0 w n), h.kn.drewN n⟩, fun w i r g x u h hr hg => ?_⟩
  have hown := hgr.right.own i r hr
  have hB := (own_block_lt hown hg).1
  have n1 : (Value.slice sA n c).ownBlock ≠ some g := by
    rcases own_ne hown hsp (by decide) with e | e
    · rw [e] at hg; cases hg
    · rw [hg] at e; exact fun e2 => e e2.symm
  have n2 : ∀ (j : Nat) (s : Row), rs0[j]? = some s → (rowV s).ownBlock ≠ some g := fun j s hs => by
    have hj := (List.getElem?_eq_some_iff.1 hs).1
    exact hgr.sep (rs0.length + i) j r s (by rw [at_right]; exact hr) (by rw [List.getElem?_append_left hj]; exact hs) (by omega) g hg
  have n3 : ∀ y, y ∈ bs → y.1 ≠ g := fun y hy e => by
    have := own_ne_blk hown (hkn.b y hy) (fun e => hbs y hy e.symm)
    rw [hg, e] at this
    exact this rfl
  have hbe := (Beside.refl g w).setCell x u
  exact ⟨h.bel.setCell hB _, ownsRow_setCell_other h.sp n1 _, h.gr.beside hbe n2, h.kn.beside hbe (fun b e => by cases e) n3 fun y hy => by cases hy⟩
theorem Keeps.vals {rs rs' : List Row} {I : World → Prop} (h : Keeps rs I) (hv : vals rs' = vals rs) : Keeps rs' I :=
  ⟨h.d, fun w i r g x u hw hr hg => by obtain ⟨r', h1, h2⟩ := vals_at hv hr; exact h.s w i r' g x u hw h1 (by rw [h2]; exact hg)⟩
/-- the parity rows, while the first n data shards are in -/
def accR (k m L : Nat) (ls : List (List F)) (n : Nat) : List (List F) := (List.range m).map fun a => tab L fun x => sumF n fun t => parF k a t * (ls.getD t []).getD x 0
/-- all shards -/
def enc (k m : Nat) (ls : List (List F)) : List (List F) := ls ++ accR k m (lenAt ls 0) ls k
theorem length_accR (k m L : Nat) (ls : List (List F)) (n : Nat) : (accR k m L ls n).length = m := by unfold accR; simp
theorem accR_at {k m L : Nat} {ls : List (List F)} {n a : Nat} (h : a < m) : (accR k m L ls n)[a]? = some (tab L fun x => sumF n fun t => parF k a t * (ls.getD t []).getD x 0) := by
  unfold accR; rw [List.getElem?_map, List.getElem?_range h]; rfl
theorem accR_zero (k m L : Nat) (ls : List (List F)) : accR k m L ls 0 = List.replicate m (List.replicate L (0 : F)) := by
  unfold accR
  rw [List.eq_replicate_iff]
  refine ⟨by simp, fun l hl => ?_⟩
  obtain ⟨a, _, rfl⟩ := List.mem_map.1 hl
  unfold tab
  rw [List.eq_replicate_iff]
  exact ⟨by simp, fun y hy => by obtain ⟨_, _, rfl⟩ := List.mem_map.1 hy; rfl⟩
theorem accR_next (k m L : Nat) (ls : List (List F)) (n : Nat) : mapR (addH (parF k) n (ls.getD n [])) (accR k m L ls n) = accR k m L ls (n + 1) := by
  refine List.ext_getElem? fun a => ?_
  rcases Nat.lt_or_ge a m with h | h
  · unfold mapR
    rw [List.getElem?_mapIdx, accR_at h, accR_at h]
    refine congrArg some ?_
    dsimp only
    rw [length_tab]
    refine tab_congr fun x hx => ?_
    rw [getD_tab _ hx, sumF_succ]; rfl
  · rw [List.getElem?_eq_none (by rw [length_mapR, length_accR]; exact h), List.getElem?_eq_none (by rw [length_accR]; exact h)]
theorem len_accR {k m L : Nat} {ls : List (List F)} {n : Nat} {a : Nat} {l : List F} (h : (accR k m L ls n)[a]? = some l) : l.length = L := by
  have ha : a < m := by
    have := (List.getElem?_eq_some_iff.1 h).1
    rwa [length_accR] at this
  rw [accR_at ha] at h
  injection h with h
  subst h
  exact length_tab _ _
theorem lsts_at {rs : List Row} {ls : List (List F)} (h : lsts rs = ls) {i : Nat} {r : Row} (hr : rs[i]? = some r) : ls[i]? = some r.2.2 := by
  rw [← h]; unfold lsts; rw [List.getElem?_map, hr]; rfl
theorem bulk_checked_yes (b k m : Nat) (N : Int) (A : Option Addr) (n c : Nat) (vs : List Value) (ls : List (List F)) (w : World) (hkm : okkm k m) (hg : GfAt w b) (ha : Sl w A c vs) (hb : Bss w vs ls) (hn : ls.length = n) (hm : n ≤ 1000) (hk : Alk ls N) :
    Calls Try.prog 109 #[fp b, .int .i64 k, .int .i64 m, .int .i64 N, .slice A n c] w fun e w' => ∃ A' c', e = .returned (.tuple #[.agg #[.int .i64 (m : Int), .int .i64 (k : Int), .slice A' (m * k) c'], .int .i64 0]) ∧ Bs w' A' c' (matL m k (parF k)) ∧ Below w.heap.size w w' := by
  refine (bulk_checked b k m N A n c vs ls w hkm hg ha hb hn hm).mono ?_
  rintro e w' ⟨A', c', ⟨_, he⟩ | ⟨h, _⟩, h2, h3⟩
  · exact ⟨A', c', he, h2, h3⟩
  · exact absurd hk h
theorem bulk_checked_no (b k m : Nat) (N : Int) (A : Option Addr) (n c : Nat) (vs : List Value) (ls : List (List F)) (w : World) (hkm : okkm k m) (hg : GfAt w b) (ha : Sl w A c vs) (hb : Bss w vs ls) (hn : ls.length = n) (hm : n ≤ 1000) (hk : ¬ Alk ls N) :
    Calls Try.prog 109 #[fp b, .int .i64 k, .int .i64 m, .int .i64 N, .slice A n c] w fun e w' => ∃ A' c', e = .returned (.tuple #[.agg #[.int .i64 (m : Int), .int .i64 (k : Int), .slice A' (m * k) c'], .int .i64 60]) ∧ Below w.heap.size w w' := by
  refine (bulk_checked b k m N A n c vs ls w hkm hg ha hb hn hm).mono ?_
  rintro e w' ⟨A', c', ⟨h, _⟩ | ⟨_, he⟩, h2, h3⟩
  · exact absurd h hk
  · exact ⟨A', c', he, h3⟩
theorem sl_tail {w : World} {A : Option Addr} {c k : Nat} {r0 rp : List Row} (h : Sl w A c (vals (r0 ++ rp))) (h0 : r0.length = k) : Sl w (rowA A c k) (c - k) (vals rp) := by
  have h := h.row (lo := k) (m := rp.length) (by rw [length_vals, List.length_append, h0]; exact Nat.le_refl _)
  rwa [vals_append, List.drop_append_of_le_length (by rw [length_vals, h0]; exact Nat.le_refl _), List.drop_of_length_le (by rw [length_vals, h0]; exact Nat.le_refl _), List.nil_append, List.take_of_length_le (by rw [length_vals]; exact Nat.le_refl _)] at h
/-- the blocks that the adder reads -/
abbrev addB (b m k : Nat) (Ap : Option Addr) (np cp : Nat) (AR : Option Addr) (cR : Nat) (bf bp bt : Nat) : List (Nat × TypeId × Array Value) := [(bf, 23, #[fp b]), (bp, 30, #[.int .i64 m, .int .i64 k, .slice Ap np cp]), (bt, 61, #[.slice AR m cR])]
theorem addB_ne (b m k : Nat) (Ap : Option Addr) (np cp : Nat) (AR : Option Addr) (cR : Nat) (bf bp bt : Nat) : ∀ x, x ∈ addB b m k Ap np cp AR cR bf bp bt → x.2.1 ≠ 5 := fun x hx => by
  simp only [List.mem_cons, List.not_mem_nil, or_false] at hx
  rcases hx with rfl | rfl | rfl
  · show (23 : Nat) ≠ 5; decide
  · show (30 : Nat) ≠ 5; decide
  · show (61 : Nat) ≠ 5; decide
/-- one call of the adder, where all that is read was there before -/
theorem add_row {W1 : World} {b k m np j : Nat} {Ap : Option Addr} {cp : Nat} {P : Mx} {sA : Option Addr} {n c : Nat} {r0 rp : List Row} {vs : List Value} {AR : Option Addr} {cR bf bp bt : Nat} (L : Nat) {As : Option Addr} {cs : Nat} {l : List F} (wi : World) {rp' : List Row}
    (hkeep : Keeps rp (EncI W1 sA n c r0 vs (addB b m k Ap np cp AR cR bf bp bt))) (hgf : GfAt W1 b) (hpb : Bs W1 Ap cp (matL m k P)) (hnp : m * k = np) (hsl : ∀ wx, EncI W1 sA n c r0 vs (addB b m k Ap np cp AR cR bf bp bt) wx → Sl wx AR cR (vals rp)) (hrow : Bs W1 As cs l) (hl : l.length = L) (hrs : rp.length = m) (hj : j < k) (hm : m ≤ 256) (hk : k ≤ 256) (hL : L ≤ 100000)
    (hI : EncI W1 sA n c r0 vs (addB b m k Ap np cp AR cR bf bp bt) wi) (hv : vals rp' = vals rp) (hlen : ∀ l', l' ∈ lsts rp' → l'.length = L) (hg : Grid wi W1.heap.size rp') :
    Calls Try.prog 122 #[.int .i64 j, .slice As L cs, .pointer (some ⟨bt, 0, none⟩), .pointer (some ⟨bp, 0, none⟩), .pointer (some ⟨bf, 0, none⟩)] wi fun e w' => e = .returned (.tuple #[]) ∧ EncI W1 sA n c r0 vs (addB b m k Ap np cp AR cR bf bp bt) w' ∧ ∃ rs', vals rs' = vals rp ∧ lsts rs' = mapR (addH P j l) (lsts rp') ∧ Grid w' W1.heap.size rs' := by
  refine (adder_call b bt bp bf m k j AR cR Ap cp P rp' As cs l L W1.heap.size (EncI W1 sA n c r0 vs (addB b m k Ap np cp AR cR bf bp bt)) wi (hkeep.vals hv) (fun wx hx => ?_) (by rw [vals_length hv]; exact hrs) (fun a r hr => ?_) hl hj hm hk hL hI hg).mono ?_
  · refine ⟨hx.kn.at (.tail _ (.tail _ (.head _))), ?_, hx.kn.at (.head _), hgf.below hx.bel, by rw [hv]; exact hsl wx hx, hpb.below hx.bel, hrow.below hx.bel⟩
    rw [hnp]
    exact hx.kn.at (.tail _ (.head _))
  · exact hlen _ (List.mem_of_getElem? (lsts_at rfl hr))
  · rintro e w' ⟨he, h1, rs', h2, h3, h4⟩
    exact ⟨he, h1, rs', h2.trans hv, h3, h4⟩
end Go.Proofs.Ytmkjplpnoohfnaa
