/- Appending a whole slice, and zeros. (run_append_zeros is the print's, WZeros.) -/
import Derived.Test.YtbepadepepoilaaMem
namespace Go.Proofs.Ytbepadepepoilaa
open Go.RowKit
theorem blk_set {w : World} {g : Nat} {t : TypeId} {cs : Array Value} (h : w.heap[g]? = some (.cells cs t (0, 0))) (i : Nat) (u : Value) : (w.setCell ⟨g, i, none⟩ u).heap[g]? = some (.cells (cs.setIfInBounds i u) t (0, 0)) := by
  simp [World.setCell, Array.getElem?_modify, h]
theorem blk_frozen {w : World} {g : Nat} {t : TypeId} {cs : Array Value} (h : w.heap[g]? = some (.cells cs t (0, 0))) (i : Nat) : w.frozen? ⟨g, i, none⟩ = false := by simp [World.frozen?, h]
theorem add_plain (g j : Nat) : (⟨g, 0, none⟩ : Addr).add j = ⟨g, j, none⟩ := by unfold Addr.add; split <;> simp_all

/-! ### 3. A slice of whole numbers that is read; nil, empty and other slices alike -/
theorem setCells_far {g : Nat} : ∀ (vs : List Value) (o : Nat) {w : World} (k : Nat), k ≠ g → (w.setCells g o vs).heap[k]? = w.heap[k]?
  | [], _, _, _, _ => rfl
  | v :: r, o, w, k, hk => by
    rw [World.setCells, setCells_far r (o + 1) k hk]
    exact Below.heap_setCell w ⟨g, o, none⟩ v k hk
theorem setCells_same (g : Nat) : ∀ (vs : List Value) (o : Nat) (w : World), (w.setCells g o vs).os = w.os ∧ (w.setCells g o vs).tape = w.tape ∧ (w.setCells g o vs).output = w.output ∧ (w.setCells g o vs).heap.size = w.heap.size
  | [], _, _ => ⟨rfl, rfl, rfl, rfl⟩
  | v :: r, o, w => by
    obtain ⟨h1, h2, h3, h4⟩ := setCells_same g r (o + 1) (w.setCell ⟨g, o, none⟩ v)
    rw [World.setCells]
    exact ⟨h1, h2, h3, by rw [h4]; simp [World.setCell]⟩
theorem setCells_row {g : Nat} {e : TypeId} : ∀ (vs : List Value) (o : Nat) (w : World) (cur : Array Value), w.heap[g]? = some (.cells cur e (0, 0)) → o + vs.length ≤ cur.size →
    ∃ cur', (w.setCells g o vs).heap[g]? = some (.cells cur' e (0, 0)) ∧ cur'.size = cur.size ∧ cur'.toList = cur.toList.take o ++ vs ++ cur.toList.drop (o + vs.length)
  | [], o, w, cur, h, _ => ⟨cur, h, rfl, by simp⟩
  | v :: r, o, w, cur, h, hl => by
    have h2 := blk_set h o v
    simp only [List.length_cons] at hl
    obtain ⟨cur', h3, h4, h5⟩ := setCells_row r (o + 1) (w.setCell ⟨g, o, none⟩ v) _ h2 (by simp; omega)
    refine ⟨cur', h3, by rw [h4]; simp, ?_⟩
    rw [h5, Array.toList_setIfInBounds]
    have ho : o < cur.toList.length := by rw [Array.length_toList]; omega
    rw [List.take_set, List.drop_set_of_lt (by omega)]
    simp only [List.length_cons]
    rw [show o + 1 + r.length = o + (r.length + 1) by omega]
    congr 1
    rw [List.take_succ_eq_append_getElem ho, List.set_append_right _ _ (by rw [List.length_take]; omega)]
    have ho' : o < cur.size := by omega
    simp [Nat.min_eq_left (Nat.le_of_lt ho')]
section
variable {P : Program}
theorem run_append_zeros (w : World) (base : Nat) (t ti ty e : TypeId) (i : TypeInfo) (z : Value) (size bytes : Nat) (ht : P.underlying t = some (.slice e)) {k : IntKind} (hti : P.underlying ti = some (.int k)) (hi : P.info? e = some i) (hz : i.zero = some z)
    (hsize : i.size = size) (hby : i.bytes = bytes) (hzs : z.cells.size = size) (hsz : 0 < size) (hb0 : 0 < bytes)
    (v : Value) (n : Nat) (xs : List Value) (hown : w.ownsRow base e size v n xs) (kx : IntKind) (m : Nat) (h1 : ∀ u ∈ (Builtin.zeroCells z.cells m).toList, u.oneCell' = true)
    (hbytes : (n + m) * bytes ≤ 140737488355328) (hbase : base ≤ w.heap.size) :
    ∃ v' w', (Builtin.append_ #[t, ti] ty #[v, .int kx m]).run P w = .ok v' w' ∧ w'.ownsRow base e size v' (n + m) (xs ++ (Builtin.zeroCells z.cells m).toList) ∧ w.grownBy w' v.ownBlock ∧
      (v'.ownBlock = v.ownBlock ∨ v'.ownBlock = some w.heap.size) := by
  subst hsize
  subst hby
  have hle : n + m ≤ 140737488355328 := Nat.le_trans (Nat.le_mul_of_pos_right _ hb0) hbytes
  have h63 : n + m ≤ maxLen := by simp only [maxLen]; omega
  have hw : IntKind.i64.wrap (m : Int) = m := by rw [IntKind.wrap_i64]; omega
  have hw0 : IntKind.i64.wrap 0 = 0 := by rw [IntKind.wrap_i64]; rfl
  have hneg : ¬ ((m : Int) < 0) := by omega
  have hmb : m * i.bytes ≤ 140737488355328 := Nat.le_trans (Nat.mul_le_mul_right _ (Nat.le_add_left m n)) hbytes
  have hbig : ¬ (281474976710656 < (m : Int) * (i.bytes : Int)) := by
    rw [← Int.natCast_mul]
    omega
  have hsn : i.size ≠ 0 := by omega
  obtain ⟨news, hnews⟩ : ∃ news, news = (Builtin.zeroCells z.cells m).toList := ⟨_, rfl⟩
  rw [← hnews] at h1 ⊢
  have hl : news.length = m * i.size := by rw [hnews, Array.length_toList, size_zeroCells, hzs]
  have hna : Builtin.zeroCells z.cells m = news.toArray := by rw [hnews]
  have hlen : (xs ++ news).length = (n + m) * i.size := by rw [List.length_append, hown.1, hl, Nat.add_mul]
  have hnil : m = 0 → news = [] := fun h => List.eq_nil_of_length_eq_zero (by rw [hl, h, Nat.zero_mul])
  have grown : ∀ (old : Nat), old < n + m → ∀ (row : Option Nat),
      (w.drew.alloc (.cells (xs.toArray ++ news.toArray ++ Builtin.zeroCells z.cells (grownCap w (n + m) old e - (n + m))) e)).ownsRow base e i.size
        (.slice (some ⟨w.heap.size, 0, none⟩) (n + m) (grownCap w (n + m) old e)) (n + m) (xs ++ news) ∧
      w.grownBy (w.drew.alloc (.cells (xs.toArray ++ news.toArray ++ Builtin.zeroCells z.cells (grownCap w (n + m) old e - (n + m))) e)) row := by
    intro old ho row
    have hge := grownCap_ge w (n + m) old e
    have hcm : grownCap w (n + m) old e ≤ maxLen := grownCap_le_maxLen w (n + m) old e h63
    refine ⟨⟨hlen, .inr ⟨w.heap.size, _, _, rfl, hbase, heap_alloc_new w.drew _, hge, hcm, ?_, ?_⟩⟩, ⟨rfl, rfl, rfl, by simp, fun k hk _ => heap_alloc_old w.drew _ hk⟩⟩
    · simp only [Array.size_append, List.size_toArray, size_zeroCells, hzs, hown.1, hl, ← Nat.add_mul]
      congr 1
      omega
    · simp only [Array.toList_append, List.append_assoc]
      rw [← List.append_assoc, ← hlen]
      exact List.take_left
  have runs : ∀ (A : Option Addr) (cap : Nat), cap < n + m → (Builtin.firstCells i.size n (.slice A n cap)).run P w.drew = .ok xs.toArray w.drew → (Builtin.append_ #[t, ti] ty #[.slice A n cap, .int kx m]).run P w =
      .ok (.slice (some ⟨w.heap.size, 0, none⟩) (n + m) (grownCap w (n + m) cap e)) (w.drew.alloc (.cells (xs.toArray ++ news.toArray ++ Builtin.zeroCells z.cells (grownCap w (n + m) cap e - (n + m))) e)) := by
    intro A cap hcap hfo
    have hn : ¬ (n + m ≤ cap) := by omega
    have h63' : ¬ (9223372036854775807 < ((n : Int) + (m : Int))) := by omega
    have hfit := growslice_fits hcap hbytes
    have h48' : ¬ (281474976710656 < Builtin.nextslicecap (n + m) cap * i.bytes) := by omega
    by_cases hm : m = 0
    · have hnl := hnil hm
      subst hm
      rw [hnl]
      simp only [Nat.add_zero] at hn h63' h48' ⊢
      have h63'' : ¬ (9223372036854775807 < (n : Int)) := by omega
      simp [Builtin.append_, run_underlying ht, run_underlying hti, sizeOf, typeInfo, zeroValue, hi, hz, asInt, asIntOf, hw0, hn, h63'', h48', Question.forced, hfo, newRow, grownCap]
    · have hmz : ¬ (m * i.size = 0) := Nat.mul_ne_zero hm hsn
      simp [Builtin.append_, run_underlying ht, run_underlying hti, sizeOf, typeInfo, zeroValue, hi, hz, asInt, asIntOf, hw, hneg, hbig, hn, h63', h48', Question.forced, hfo, newRow, grownCap, hmz, hna]
      congr 2
      apply Array.ext'
      simp [List.append_assoc]
  rcases hown.2 with ⟨rfl, rfl⟩ | ⟨g, cap, cur, rfl, hbg, hg, hnc, hcm, hcs, htake⟩
  · have hx : xs = [] := List.eq_nil_of_length_eq_zero (by simpa using hown.1)
    subst hx
    by_cases hm : m = 0
    · have hnl := hnil hm
      subst hm
      rw [hnl]
      refine ⟨.slice none 0 0, w, ?_, World.ownsRow_nil w base e i.size, ⟨rfl, rfl, rfl, Nat.le_refl _, fun _ _ _ => rfl⟩, Or.inl rfl⟩
      simp [Builtin.append_, run_underlying ht, run_underlying hti, sizeOf, typeInfo, hi, asInt, asIntOf, hw0]
    · have hgr := grown 0 (by omega) (Value.ownBlock (.slice none 0 0))
      exact ⟨_, _, runs none 0 (by omega) (by simp [Builtin.firstCells]), hgr.1, hgr.2, Or.inr rfl⟩
  · by_cases hroom : n + m ≤ cap
    · have hfit : n * i.size + news.length ≤ cur.size := by rw [hl, hcs, ← Nat.add_mul]; exact Nat.mul_le_mul_right _ hroom
      obtain ⟨cur', h3, h4, h5⟩ := setCells_row news (n * i.size) w cur hg hfit
      obtain ⟨s1, s2, s3, s4⟩ := setCells_same g news (n * i.size) w
      have hst := run_storeCells_cells (P := P) g (n * i.size) news 0 w (fun j hj => by rw [cell_of_row w g _ cur e (0, 0) hg]; simp; omega) (fun j _ => blk_frozen hg _) h1
      simp only [Nat.add_zero] at hst
      refine ⟨.slice (some ⟨g, 0, none⟩) (n + m) cap, w.setCells g (n * i.size) news, ?_, ⟨hlen, .inr ⟨g, cap, cur', rfl, hbg, h3, hroom, hcm, by rw [h4, hcs], ?_⟩⟩, ⟨s1, s2, s3, by rw [s4]; exact Nat.le_refl _, fun k _ hk => setCells_far news _ k (fun e => hk (by simp [Value.ownBlock, e]))⟩, Or.inl rfl⟩
      · by_cases hm : m = 0
        · have hnl := hnil hm
          subst hm
          rw [hnl] at hst ⊢
          simp [Builtin.append_, run_underlying ht, run_underlying hti, sizeOf, typeInfo, hi, asInt, asIntOf, hw0, hnc, add_plain, hst]
        · have hmz : ¬ (m * i.size = 0) := Nat.mul_ne_zero hm hsn
          simp [Builtin.append_, run_underlying ht, run_underlying hti, sizeOf, typeInfo, zeroValue, hi, hz, asInt, asIntOf, hw, hneg, hbig, hroom, hmz, hna, add_plain, hst]
      · rw [h5]
        have h6 : cur.toList.take (n * i.size) = xs := htake
        rw [h6, ← hlen]
        exact List.take_left
    · have holds : ∀ j u, xs[j]? = some u → w.cell? ((⟨g, 0, none⟩ : Addr).add j) = some u := hown.cells (g := g) rfl
      have hgr := grown cap (by omega) (Value.ownBlock (.slice (some ⟨g, 0, none⟩) n cap))
      exact ⟨_, _, runs (some ⟨g, 0, none⟩) cap (by omega) (run_firstCells_some (P := P) w.drew i.size n _ n cap xs hown.1 (by simpa using holds)), hgr.1, hgr.2, Or.inr rfl⟩
theorem run_append_none (w : World) (base : Nat) (t ty e : TypeId) (i : TypeInfo) (size : Nat) (ht : P.underlying t = some (.slice e)) (hi : P.info? e = some i)
    (v : Value) (n : Nat) (xs : List Value) (hown : w.ownsRow base e size v n xs) (c : Nat) :
    (Builtin.append_ #[t, t] ty #[v, .slice none 0 c]).run P w = .ok v w := by
  rcases hown.2 with ⟨rfl, rfl⟩ | ⟨g, cap, cur, rfl, _, _, hnc, _⟩
  · simp [Builtin.append_, run_underlying ht, sizeOf, typeInfo, hi, Builtin.lenOf, Builtin.firstCells]
  · simp [Builtin.append_, run_underlying ht, sizeOf, typeInfo, hi, Builtin.lenOf, Builtin.firstCells, hnc, storeCells]
theorem grownBy_refl (w : World) (r : Option Nat) : w.grownBy w r := ⟨rfl, rfl, rfl, Nat.le_refl _, fun _ _ _ => rfl⟩
/-- a whole slice is put behind -/
theorem app_sl {ops : Array Oper} {rest : List Oper} {o : Oper} {a : Act} {Q : Exit → Act → World → Prop} (w : World) (hgd : o.guard = none) (s x : Operand) (t : TypeId)
    (ho : o.op = .call { callee := .builtin .append, args := #[s, x], argTypes := #[t, t] })
    (base : Nat) (e : TypeId) (z : Value) (bytes : Nat) (ht : P.underlying t = some (.slice e)) (hinfo : (P.info? e).map (fun i => (i.zero, i.size, i.bytes)) = some (some z, 1, bytes)) (hzs : z.cells.size = 1)
    (v : Value) (n : Nat) (xs : List Value) (hs : a.eval s = v) (hown : w.ownsRow base e 1 v n xs)
    (A : Option Addr) (c : Nat) (news : List Value) (hx : a.eval x = .slice A news.length c) (hn : Sl w A c news) (h1 : ∀ u ∈ news, u.oneCell' = true)
    (hb0 : 0 < bytes) (hbytes : (n + news.length) * bytes ≤ 140737488355328) (hbase : base ≤ w.heap.size)
    (h : ∀ v' w', w'.ownsRow base e 1 v' (n + news.length) (xs ++ news) → w.grownBy w' v.ownBlock → wpList P ops Q rest (a.put o.dst v') w') : wpList P ops Q (o :: rest) a w := by
  obtain ⟨i, hi, hzz⟩ := Option.map_eq_some_iff.1 hinfo
  simp only [Prod.mk.injEq] at hzz
  obtain ⟨hz0, hz1, hz2⟩ := hzz
  have h63 : n + news.length ≤ maxLen := by
    have := Nat.le_trans (Nat.le_mul_of_pos_right (n + news.length) hb0) hbytes
    simp only [maxLen]; omega
  cases A with
  | none =>
    have h0 : news = [] := by rcases hn.cells with h | ⟨b, o, hA, _⟩; exact h; cases hA
    subst h0
    refine wpList_plain hgd fun K hK => ?_
    unfold Oper.wp execOp
    simp only [ho, resolve, invoke, builtin, Sem.run_bind, Sem.run_pure, Result.andThen_ok, List.map_toArray, List.map_cons, List.map_nil, hs, hx, List.length_nil, run_append_none (P := P) w base t o.type e i 1 ht hi v n xs hown c]
    exact hK _ _ (h v w (by simpa using hown) (grownBy_refl _ _))
  | some ad =>
    refine wpList_append_own w hgd s x t ho base e i z 1 bytes ht hi hz0 hz1 hz2 hzs (by decide) v n xs hs hown ad news.length c news hx (by simp) (fun j u hj => ?_) h1 h63 hbytes hbase fun v' w' h2 h3 _ => h v' w' h2 h3
    have h0 : 0 < news.length := by have := (List.getElem?_eq_some_iff.1 hj).1; omega
    obtain ⟨b, o', hA, _, hc⟩ := Sl.at' hn h0
    cases hA
    have := hc j u hj
    unfold Addr.add
    split
    · rename_i h; rw [h, Nat.add_zero] at this; exact this
    · exact this
/-- noughts are put behind -/
theorem app_zeros {ops : Array Oper} {rest : List Oper} {o : Oper} {a : Act} {Q : Exit → Act → World → Prop} (w : World) (hgd : o.guard = none) (s x : Operand) (t ti : TypeId) {k : IntKind}
    (ho : o.op = .call { callee := .builtin .append, args := #[s, x], argTypes := #[t, ti] })
    (base : Nat) (e : TypeId) (z : Value) (bytes : Nat) (ht : P.underlying t = some (.slice e)) (hti : P.underlying ti = some (.int k)) (hinfo : (P.info? e).map (fun i => (i.zero, i.size, i.bytes)) = some (some z, 1, bytes)) (hzs : z.cells.size = 1)
    (v : Value) (n : Nat) (xs : List Value) (hs : a.eval s = v) (hown : w.ownsRow base e 1 v n xs) (kx : IntKind) (m : Nat) (hx : a.eval x = .int kx m)
    (h1 : z.oneCell' = true) (hz1 : z.cells.toList = [z]) (hb0 : 0 < bytes) (hbytes : (n + m) * bytes ≤ 140737488355328) (hbase : base ≤ w.heap.size)
    (h : ∀ v' w', w'.ownsRow base e 1 v' (n + m) (xs ++ List.replicate m z) → w.grownBy w' v.ownBlock → wpList P ops Q rest (a.put o.dst v') w') : wpList P ops Q (o :: rest) a w := by
  obtain ⟨i, hi, hzz⟩ := Option.map_eq_some_iff.1 hinfo
  simp only [Prod.mk.injEq] at hzz
  obtain ⟨hz0, hz2, hz3⟩ := hzz
  have hza : z.cells = #[z] := by apply Array.ext'; simpa using hz1
  have hrep : (Builtin.zeroCells z.cells m).toList = List.replicate m z := by
    rw [show Builtin.zeroCells z.cells m = madeCells z.cells (m * 1) by unfold Builtin.zeroCells madeCells; rw [hza]; rfl]
    unfold madeCells
    rw [hza]
    refine List.ext_getElem (by simp) fun i h1 h2 => ?_
    simp [Nat.mod_one]
  obtain ⟨v', w', hr, h2, h3, _⟩ := run_append_zeros (P := P) w base t ti o.type e i z 1 bytes ht hti hi hz0 hz2 hz3 hzs (by decide) hb0 v n xs hown kx m (by
    rw [hrep]; intro u hu; rw [List.eq_of_mem_replicate hu]; exact h1) hbytes hbase
  rw [hrep] at h2
  refine wpList_plain hgd fun K hK => ?_
  unfold Oper.wp execOp
  simp only [ho, resolve, invoke, builtin, Sem.run_bind, Sem.run_pure, Result.andThen_ok, List.map_toArray, List.map_cons, List.map_nil, hs, hx, hr]
  exact hK _ _ (h v' w' h2 h3)
end
theorem zeros_own {w : World} {B N : Nat} {v : Value} (h : w.ownsRow B 5 1 v N (madeCells (Value.int .u8 0).cells (N * 1)).toList) : w.ownsRow B 5 1 v N ((List.replicate N (0 : F)).map bv) := by
  rw [show (Value.int .u8 0).cells = #[.int .u8 0] from rfl, Nat.mul_one, toList_madeCells_one] at h
  rw [List.map_replicate]
  exact h
/-- make([]byte, n) -/
theorem make_bytes {ops : Array Oper} {rest : List Oper} {o : Oper} {a : Act} {Q : Exit → Act → World → Prop} (w : World) (hg : o.guard = none) (l c : Operand) (hop : o.op = Op.makeSlice 22 l c)
    (kl kc : IntKind) (L C : Int) (N : Nat) (hl : a.eval l = .int kl L) (hc : a.eval c = .int kc C) (hL : L = (N : Int)) (hC : C = (N : Int)) (hN : N ≤ 140737488351232)
    (hK : ∀ w', w'.ownsRow w.heap.size 5 1 (.slice (some ⟨w.heap.size, 0, none⟩) N N) N ((List.replicate N (0 : F)).map bv) → Below w.heap.size w w' → wpList Try.prog ops Q rest (a.put o.dst (.slice (some ⟨w.heap.size, 0, none⟩) N N)) w') : wpList Try.prog ops Q (o :: rest) a w := by
  obtain ⟨i0, hi0, hz0, hz1, hz2⟩ := info_parts info_byte
  refine wpList_make_full w hg l c 22 hop w.heap.size 5 i0 _ 1 Try.underlying22 hi0 hz0 hz1 kl kc L C N hl hc hL hC (by rw [hz2]; omega) (by unfold maxLen; omega) (Nat.le_refl _) ?_
  intro w1 hown hgr
  exact hK w1 (zeros_own hown) ((Below.refl _ _).grown hgr (Nat.le_refl _) (by simp))
/-- append(v, l...) of bytes -/
theorem app_bytes {ops : Array Oper} {rest : List Oper} {o : Oper} {a : Act} {Q : Exit → Act → World → Prop} (w : World) (hg : o.guard = none) (s x : Operand)
    (ho : o.op = .call { callee := .builtin .append, args := #[s, x], argTypes := #[22, 22] })
    (B : Nat) (A1 : Option Addr) (c1 n : Nat) (xs : List F) (hs : a.eval s = .slice A1 n c1) (hown : w.ownsRow B 5 1 (.slice A1 n c1) n (xs.map bv))
    (A : Option Addr) (c m : Nat) (l : List F) (hx : a.eval x = .slice A m c) (hl : Bs w A c l) (hm : l.length = m) (hN : n + m ≤ 140737488351232) (hB : B ≤ w.heap.size)
    (hK : ∀ A' c' w', w'.ownsRow B 5 1 (.slice A' (n + m) c') (n + m) ((xs ++ l).map bv) → Below B w w' → wpList Try.prog ops Q rest (a.put o.dst (.slice A' (n + m) c')) w') : wpList Try.prog ops Q (o :: rest) a w := by
  subst hm
  have hml : (l.map bv).length = l.length := List.length_map ..
  refine app_sl w hg s x 22 ho B 5 (.int .u8 0) 1 Try.underlying22 info_byte rfl _ n (xs.map bv) hs hown A c (l.map bv) (by rw [hml]; exact hx) hl (bytes_oneCell l) (by decide) (by rw [hml]; omega) hB ?_
  intro v' w' h1 h2
  rw [hml] at h1
  obtain ⟨A', c', rfl⟩ := own_form h1
  rw [← List.map_append] at h1
  exact hK A' c' w' h1 (own_grow (Below.refl _ _) hown h2 hB)
/-- append(v, l...) of bytes; what has grown -/
theorem app_bytes_g {ops : Array Oper} {rest : List Oper} {o : Oper} {a : Act} {Q : Exit → Act → World → Prop} (w : World) (hg : o.guard = none) (s x : Operand)
    (ho : o.op = .call { callee := .builtin .append, args := #[s, x], argTypes := #[22, 22] })
    (B : Nat) (A1 : Option Addr) (c1 n : Nat) (xs : List F) (hs : a.eval s = .slice A1 n c1) (hown : w.ownsRow B 5 1 (.slice A1 n c1) n (xs.map bv))
    (A : Option Addr) (c m : Nat) (l : List F) (hx : a.eval x = .slice A m c) (hl : Bs w A c l) (hm : l.length = m) (hN : n + m ≤ 140737488351232) (hB : B ≤ w.heap.size)
    (hK : ∀ A' c' w', w'.ownsRow B 5 1 (.slice A' (n + m) c') (n + m) ((xs ++ l).map bv) → w.grownBy w' (Value.slice A1 n c1).ownBlock → wpList Try.prog ops Q rest (a.put o.dst (.slice A' (n + m) c')) w') : wpList Try.prog ops Q (o :: rest) a w := by
  subst hm
  have hml : (l.map bv).length = l.length := List.length_map ..
  refine app_sl w hg s x 22 ho B 5 (.int .u8 0) 1 Try.underlying22 info_byte rfl _ n (xs.map bv) hs hown A c (l.map bv) (by rw [hml]; exact hx) hl (bytes_oneCell l) (by decide) (by rw [hml]; omega) hB ?_
  intro v' w' h1 h2
  rw [hml] at h1
  obtain ⟨A', c', rfl⟩ := own_form h1
  rw [← List.map_append] at h1
  exact hK A' c' w' h1 h2
/-- append(v, make([]byte, m)...) -/
theorem app_zero_bytes {ops : Array Oper} {rest : List Oper} {o : Oper} {a : Act} {Q : Exit → Act → World → Prop} (w : World) (hg : o.guard = none) (s x : Operand)
    (ho : o.op = .call { callee := .builtin .append, args := #[s, x], argTypes := #[22, 3] })
    (B : Nat) (A1 : Option Addr) (c1 n : Nat) (xs : List F) (hs : a.eval s = .slice A1 n c1) (hown : w.ownsRow B 5 1 (.slice A1 n c1) n (xs.map bv))
    (m : Nat) (hx : a.eval x = .int .i64 m) (hN : n + m ≤ 140737488351232) (hB : B ≤ w.heap.size)
    (hK : ∀ A' c' w', w'.ownsRow B 5 1 (.slice A' (n + m) c') (n + m) ((xs ++ List.replicate m (0 : F)).map bv) → Below B w w' → wpList Try.prog ops Q rest (a.put o.dst (.slice A' (n + m) c')) w') : wpList Try.prog ops Q (o :: rest) a w := by
  refine app_zeros w hg s x 22 3 ho B 5 (.int .u8 0) 1 Try.underlying22 Try.underlying3 info_byte rfl _ n (xs.map bv) hs hown .i64 m hx rfl rfl (by decide) (by omega) hB ?_
  intro v' w' h1 h2
  obtain ⟨A', c', rfl⟩ := own_form h1
  rw [show List.replicate m (Value.int .u8 0) = (List.replicate m (0 : F)).map bv by rw [List.map_replicate]; rfl, ← List.map_append] at h1
  exact hK A' c' w' h1 (own_grow (Below.refl _ _) hown h2 hB)
/-- append(v, l...) of bytes, as one step of a region that draws -/
theorem step_app_bytes {ops : Array Oper} {o : Oper} {a : Act} {w : World} {K : Act → World → Prop} {Q : Exit → Act → World → Prop} {E : Prop} (hg : o.guard = none) (s x : Operand)
    (ho : o.op = .call { callee := .builtin .append, args := #[s, x], argTypes := #[22, 22] })
    (B : Nat) (A1 : Option Addr) (c1 n : Nat) (xs : List F) (hs : a.eval s = .slice A1 n c1) (hown : w.ownsRow B 5 1 (.slice A1 n c1) n (xs.map bv))
    (A : Option Addr) (c m : Nat) (l : List F) (hx : a.eval x = .slice A m c) (hl : Bs w A c l) (hm : l.length = m) (hN : n + m ≤ 140737488351232) (hB : B ≤ w.heap.size)
    (hK : ∀ A' c' w', w'.ownsRow B 5 1 (.slice A' (n + m) c') (n + m) ((xs ++ l).map bv) → w.grownBy w' (Value.slice A1 n c1).ownBlock → K (a.put o.dst (.slice A' (n + m) c')) w') :
    if Region.wanted o (yielded ops a.tmps) = true then Oper.wp Try.prog o a w K Q else E := by
  subst hm
  have hw : Region.wanted o (yielded ops a.tmps) = true := by simp [Region.wanted, hg]
  rw [if_pos hw]
  obtain ⟨i, hi, hzz⟩ := Option.map_eq_some_iff.1 info_byte
  simp only [Prod.mk.injEq] at hzz
  obtain ⟨hz0, hz1, hz2⟩ := hzz
  have fin : ∀ v' w', w'.ownsRow B 5 1 v' (n + l.length) (xs.map bv ++ l.map bv) → w.grownBy w' (Value.slice A1 n c1).ownBlock → K (a.put o.dst v') w' := fun v' w' h1 h2 => by
    obtain ⟨A', c', rfl⟩ := own_form h1
    rw [← List.map_append] at h1
    exact hK A' c' w' h1 h2
  cases A with
  | none =>
    have h0 : l = [] := by
      rcases hl.cells with h | ⟨b, o, hA, _⟩
      · simpa using h
      · cases hA
    subst h0
    unfold Oper.wp execOp
    simp only [ho, resolve, invoke, builtin, Sem.run_bind, Sem.run_pure, Result.andThen_ok, List.map_toArray, List.map_cons, List.map_nil, hs, hx, List.length_nil, run_append_none (P := Try.prog) w B 22 o.type 5 i 1 Try.underlying22 hi _ n _ hown c]
    exact fin _ w (by simpa using hown) (grownBy_refl _ _)
  | some ad =>
    refine wp_append_own w s x 22 ho B 5 i (.int .u8 0) 1 1 Try.underlying22 hi hz0 hz1 hz2 rfl (by decide) _ n (xs.map bv) hs hown ad l.length c (l.map bv) hx (by simp) (fun j u hj => ?_) (bytes_oneCell l) (by unfold maxLen; omega) (by omega) hB fun v' w' h2 h3 _ => fin v' w' h2 h3
    have h0 : 0 < (l.map bv).length := by have := (List.getElem?_eq_some_iff.1 hj).1; omega
    obtain ⟨b, o', hA, _, hc⟩ := Sl.at' hl h0
    cases hA
    have := hc j u hj
    unfold Addr.add
    split
    · rename_i h; rw [h, Nat.add_zero] at this; exact this
    · exact this
end Go.Proofs.Ytbepadepepoilaa
