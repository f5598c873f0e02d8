/- A row of a spine that an append makes longer; rows of a spine that others take the place of; plain facts for aumbryref03.Invert. -/
import Derived.Test.YtbepadepepoilaaR3c
import Derived.Test.YtbepadepepoilaaMxIp
namespace Go.Proofs.Ytbepadepepoilaa
open Go.RowKit
set_option linter.unusedVariables false
set_option linter.unusedSimpArgs false
section
variable {P : Program}
/-- where an append puts what it makes -/
theorem append_where (w : World) (base : Nat) (t ty e : TypeId) (i : TypeInfo) (z : Value) (bytes : Nat) (ht : P.underlying t = some (.slice e)) (hi : P.info? e = some i) (hz : i.zero = some z) (hsize : i.size = 1) (hby : i.bytes = bytes)
    (g n cap : Nat) (xs : List Value) (hown : w.ownsRow base e 1 (.slice (some ⟨g, 0, none⟩) n cap) n xs) (a : Addr) (m c : Nat) (news : List Value) (hl : news.length = m) (hnews : ∀ j u, news[j]? = some u → w.cell? (a.add j) = some u) (h1 : ∀ u ∈ news, u.oneCell' = true)
    (h63 : n + m ≤ maxLen) (hbytes : (n + m) * bytes ≤ 140737488355328) {v' : Value} {w' : World} (hr : (Builtin.append_ #[t, t] ty #[.slice (some ⟨g, 0, none⟩) n cap, .slice (some a) m c]).run P w = .ok v' w') :
    v'.ownBlock = some g ∨ v'.ownBlock = some w.heap.size := by
  have hsmall : n + m ≤ 9223372036854775807 := by simp only [maxLen] at h63; omega
  have hl' : news.length = m * i.size := by rw [hsize, Nat.mul_one]; exact hl
  have hxl : xs.length = n * i.size := by rw [hsize]; exact hown.1
  rcases hown.2 with ⟨h, _⟩ | ⟨g', cap', cur, h, hbg, hg, hnc, hcm, hcs, htake⟩
  · cases h
  · injection h with e1 e2 e3
    injection e1 with e1
    injection e1 with e1 _
    subst e1
    subst e3
    by_cases hroom : n + m ≤ cap
    · have hfit : n * i.size + news.length ≤ cur.size := by rw [hl, hcs, hsize]; omega
      rw [run_append_room (P := P) w t ty e i ht hi g n cap cur hg a m c news hl' hnews h1 hroom hfit] at hr
      injection hr with e1 _
      rw [← e1]; exact .inl rfl
    · have holds : ∀ j u, xs[j]? = some u → w.cell? ((⟨g, 0, none⟩ : Addr).add j) = some u := hown.cells (g := g) rfl
      rw [run_append_grow (P := P) w t ty e i z ht hi hz ⟨g, 0, none⟩ n cap xs hxl holds a m c news hl' hnews (by omega) (by omega) (growslice_fits (by omega) (by rw [hby]; exact hbytes))] at hr
      injection hr with e1 _
      rw [← e1]; exact .inr rfl
end
theorem app_bytes_f {ops : Array Oper} {rest : List Oper} {o : Oper} {a : Act} {Q : Exit → Act → World → Prop} (w : World) (hgd : o.guard = none) (s x : Operand)
    (ho : o.op = .call { callee := .builtin .append, args := #[s, x], argTypes := #[22, 22] })
    (B : Nat) (g c1 n : Nat) (xs : List F) (hs : a.eval s = .slice (some ⟨g, 0, none⟩) n c1) (hown : w.ownsRow B 5 1 (.slice (some ⟨g, 0, none⟩) n c1) n (xs.map bv))
    (b2 o2 c m : Nat) (l : List F) (hx : a.eval x = .slice (some ⟨b2, o2, none⟩) m c) (hl : Bs w (some ⟨b2, o2, none⟩) c l) (hm : l.length = m) (hm0 : 0 < m) (hN : n + m ≤ 140737488351232) (hB : B ≤ w.heap.size)
    (hK : ∀ g' c' w', w'.ownsRow B 5 1 (.slice (some ⟨g', 0, none⟩) (n + m) c') (n + m) ((xs ++ l).map bv) → w.grownBy w' (some g) → (g' = g ∨ g' = w.heap.size) → wpList Try.prog ops Q rest (a.put o.dst (.slice (some ⟨g', 0, none⟩) (n + m) c')) w') : wpList Try.prog ops Q (o :: rest) a w := by
  subst hm
  obtain ⟨i, hi, hzz⟩ := Option.map_eq_some_iff.1 info_byte
  simp only [Prod.mk.injEq] at hzz
  obtain ⟨hz0, hz1, hz2⟩ := hzz
  have hml : (l.map bv).length = l.length := List.length_map ..
  have hnews : ∀ j u, (l.map bv)[j]? = some u → w.cell? ((⟨b2, o2, none⟩ : Addr).add j) = some u := fun j u hj => by
    obtain ⟨b, o', hA, _, hc⟩ := Sl.at' hl (by rw [hml]; exact hm0)
    cases hA
    rw [add_at]
    exact hc j u hj
  have h63 : n + l.length ≤ maxLen := by unfold maxLen; omega
  obtain ⟨v', w', hr, h2, h3, _⟩ := run_append_own (P := Try.prog) w B 22 o.type 5 i (.int .u8 0) 1 1 Try.underlying22 hi hz0 hz1 hz2 rfl (by decide) (.slice (some ⟨g, 0, none⟩) n c1) n (xs.map bv) hown ⟨b2, o2, none⟩ l.length c (l.map bv) (by rw [hml, Nat.mul_one]) hnews (bytes_oneCell l) h63 (by omega) hB
  have h5 := append_where (P := Try.prog) w B 22 o.type 5 i (.int .u8 0) 1 Try.underlying22 hi hz0 hz1 hz2 g n c1 (xs.map bv) hown ⟨b2, o2, none⟩ l.length c (l.map bv) hml hnews (bytes_oneCell l) h63 (by omega) hr
  rw [← List.map_append] at h2
  obtain ⟨A', c', rfl⟩ := own_form h2
  obtain ⟨g', hA, _, _⟩ := own_addr h2 (by omega)
  subst hA
  refine wpList_plain hgd fun K hKK => ?_
  unfold Oper.wp execOp
  simp only [ho, resolve, invoke, builtin, Sem.run_bind, Sem.run_pure, Result.andThen_ok, List.map_toArray, List.map_cons, List.map_nil, hs, hx, hr]
  exact hKK _ _ (hK g' c' w' h2 h3 (by simpa [Value.ownBlock] using h5))
theorem Grid.grow {w w' : World} {B : Nat} {rs : List Row} (h : Grid w B rs) {i : Nat} {r r' : Row} (hr : rs[i]? = some r) (ho : ownR w' B r') (hg : w.grownBy w' (rowV r).ownBlock) (hb : (rowV r').ownBlock = (rowV r).ownBlock ∨ (rowV r').ownBlock = some w.heap.size) : Grid w' B (rs.set i r') := by
  have hi : i < rs.length := (List.getElem?_eq_some_iff.1 hr).1
  refine ⟨fun j s hs => ?_, fun j k s t hs ht hjk x hx hx' => ?_⟩
  · by_cases e : i = j
    · subst e
      rw [List.getElem?_set_self hi] at hs
      cases hs
      exact ho
    · rw [List.getElem?_set_ne e] at hs
      refine (h.own j s hs).kept hg ?_
      cases hsb : (rowV s).ownBlock with
      | none => exact .inl rfl
      | some y => exact .inr fun q => h.sep j i s r hs hr (fun z => e z.symm) y hsb q.symm
  · by_cases e : i = j
    · subst e
      rw [List.getElem?_set_self hi] at hs
      cases hs
      rw [List.getElem?_set_ne hjk] at ht
      rcases hb with hb | hb
      · rw [hb] at hx
        exact h.sep i k r t hr ht hjk x hx hx'
      · rw [hb] at hx
        injection hx with hx
        have := (own_block_lt (h.own k t ht) hx').2
        omega
    · rw [List.getElem?_set_ne e] at hs
      by_cases e2 : i = k
      · subst e2
        rw [List.getElem?_set_self hi] at ht
        cases ht
        rcases hb with hb | hb
        · rw [hb] at hx'
          exact h.sep j i s r hs hr hjk x hx hx'
        · rw [hb] at hx'
          injection hx' with hx'
          have := (own_block_lt (h.own j s hs) hx).2
          omega
      · rw [List.getElem?_set_ne e2] at ht
        exact h.sep j k s t hs ht hjk x hx hx'
/-- a row of a spine made longer, and stored where it was -/
theorem MadeR.grow {wb w w' : World} {g n c : Nat} {rs : List Row} (h : MadeR wb w (some ⟨g, 0, none⟩) n c rs) {i : Nat} {r r' : Row} (hr : rs[i]? = some r) (ho : ownR w' wb.heap.size r') (hg : w.grownBy w' (rowV r).ownBlock) (hb : (rowV r').ownBlock = (rowV r).ownBlock ∨ (rowV r').ownBlock = some w.heap.size) :
    w'.cell? ⟨g, i, none⟩ = some (rowV r) ∧ w'.frozen? ⟨g, i, none⟩ = false ∧ MadeR wb (w'.setCell ⟨g, i, none⟩ (rowV r')) (some ⟨g, 0, none⟩) n c (rs.set i r') := by
  have hi : i < rs.length := (List.getElem?_eq_some_iff.1 hr).1
  have hsep := own_ne (h.gr.own i r hr) h.sp (by decide)
  have hsp : w'.ownsRow wb.heap.size 22 1 (.slice (some ⟨g, 0, none⟩) n c) n (vals rs) := h.sp.kept hg (by
    rcases hsep with q | q
    · right; rw [q]; simp [Value.ownBlock]
    · exact .inr fun z => q z.symm)
  have hcell := hsp.cellAt i (by have := own_len hsp; rw [length_vals] at this; omega)
  have hv : (vals rs)[i]? = some (rowV r) := by unfold vals; rw [List.getElem?_map, hr]; rfl
  rw [hv] at hcell
  have hgr := h.gr.grow hr ho hg hb
  have hst := (hsp.stored i (rowV r')).1
  have hvs : (vals rs).set i (rowV r') = vals (rs.set i r') := by unfold vals; rw [List.map_set]
  rw [hvs] at hst
  have hbel : Below wb.heap.size wb w' := h.bel.grown hg h.bel.size fun k hk => ((h.gr.own i r hr).lt k hk).1
  refine ⟨hcell, hsp.frozenAt i, hst, hgr.beside ((Beside.refl g w').setCell i _) fun j s hs => ?_, hbel.setCell (own_some h.sp).1 _⟩
  have := own_ne (hgr.own j s hs) hsp (by decide)
  rcases this with q | q
  · rw [q]; exact fun z => by cases z
  · exact q
/-- a row that stands elsewhere takes a row's place -/
theorem Spn.put' {wb wr : World} {g n c : Nat} {ls : List (List F)} (h : Spn wb wr g n c ls) {i : Nat} {A : Option Addr} {cA : Nat} {l : List F} (hl : Bs wr A cA l) (hne : l ≠ [] → ∀ b o, A = some ⟨b, o, none⟩ → b ≠ g) : Spn wb (wr.setCell ⟨g, i, none⟩ (.slice A l.length cA)) g n c (ls.set i l) := by
  obtain ⟨vs, h1, h2, h3⟩ := h.ex
  have hg := (own_some h1).1
  have hbe := (Beside.refl g wr).setCell i (.slice A l.length cA)
  have keep : ∀ {A' : Option Addr} {c' : Nat} {m : List F}, Bs wr A' c' m → (m ≠ [] → ∀ b o, A' = some ⟨b, o, none⟩ → b ≠ g) → Bs (wr.setCell ⟨g, i, none⟩ (.slice A l.length cA)) A' c' m := fun {A' c' m} b d => by
    by_cases hm0 : m = []
    · subst hm0
      exact ⟨b.le, b.mx, .inl rfl⟩
    · exact Sl.beside b hbe (d hm0)
  refine ⟨⟨vs.set i (.slice A l.length cA), (h1.stored i _).1, by simp [h2], fun j m hm => ?_⟩, h.bel.setCell hg _⟩
  by_cases e : i = j
  · subst e
    have hi : i < ls.length := by
      rcases Nat.lt_or_ge i ls.length with q | q
      · exact q
      · rw [List.getElem?_eq_none (by rw [List.length_set]; exact q)] at hm; cases hm
    rw [List.getElem?_set_self hi] at hm
    injection hm with hm
    subst hm
    exact ⟨A, cA, List.getElem?_set_self (by omega), keep hl hne, hne⟩
  · rw [List.getElem?_set_ne e] at hm
    obtain ⟨A', c', a, b, d⟩ := h3 j m hm
    exact ⟨A', c', by rw [List.getElem?_set_ne e]; exact a, keep b d, d⟩
theorem Spn.below {wb w w' : World} {g n c : Nat} {ls : List (List F)} (h : Spn wb w g n c ls) (hb : Below w.heap.size w w') : Spn wb w' g n c ls := by
  obtain ⟨vs, h1, h2, h3⟩ := h.ex
  exact ⟨⟨vs, own_below h1 hb, h2, fun i l hl => by obtain ⟨A', c', a, b, d⟩ := h3 i l hl; exact ⟨A', c', a, Sl.below b hb, d⟩⟩, h.bel.trans (hb.mono h.bel.size)⟩
theorem Spn.get {wb wr : World} {g n c : Nat} {ls : List (List F)} (h : Spn wb wr g n c ls) {i : Nat} {l : List F} (hl : ls[i]? = some l) : ∃ A' c', wr.cell? ⟨g, i, none⟩ = some (.slice A' l.length c') ∧ Bs wr A' c' l ∧ (l ≠ [] → ∀ b o, A' = some ⟨b, o, none⟩ → b ≠ g) := by
  obtain ⟨vs, h1, h2, h3⟩ := h.ex
  obtain ⟨A', c', a, b, d⟩ := h3 i l hl
  refine ⟨A', c', ?_, b, d⟩
  rw [h1.cellAt i (by have := (List.getElem?_eq_some_iff.1 a).1; have := own_len h1; omega)]
  exact a
/-- rows, of which the first i have the identity's beside them -/
def iniL (n : Nat) (a : Mx) (i : Nat) : List (List F) := (List.range n).map fun r => if r < i then tab n (a r) ++ tab n (dlt r) else tab n (a r)
theorem length_iniL (n : Nat) (a : Mx) (i : Nat) : (iniL n a i).length = n := by unfold iniL; simp
theorem iniL_zero (n : Nat) (a : Mx) : rowsM n n a = iniL n a 0 := by unfold rowsM iniL; exact List.map_congr_left fun r _ => by rw [if_neg (by omega)]
theorem iniL_at {n i : Nat} (a : Mx) (h : i < n) : (iniL n a i)[i]? = some (tab n (a i)) := by
  unfold iniL
  rw [List.getElem?_map, List.getElem?_range h]
  show some (if i < i then _ else _) = _
  rw [if_neg (by omega)]
theorem iniL_set {n i : Nat} (a : Mx) (h : i < n) : (iniL n a i).set i (tab n (a i) ++ tab n (dlt i)) = iniL n a (i + 1) := by
  refine List.ext_getElem? fun j => ?_
  by_cases e : i = j
  · subst e
    rw [List.getElem?_set_self (by rw [length_iniL]; exact h)]
    unfold iniL
    rw [List.getElem?_map, List.getElem?_range h]
    show _ = some (if i < i + 1 then _ else _)
    rw [if_pos (by omega)]
  · rw [List.getElem?_set_ne e]
    unfold iniL
    rw [List.getElem?_map, List.getElem?_map]
    cases hj : (List.range n)[j]? with
    | none => rfl
    | some y =>
      have : y = j := by
        obtain ⟨h1, h2⟩ := List.getElem?_eq_some_iff.1 hj
        rw [← h2, List.getElem_range]
      subst this
      show some (if y < i then _ else _) = some (if y < i + 1 then _ else _)
      by_cases q : y < i
      · rw [if_pos q, if_pos (by omega)]
      · rw [if_neg q, if_neg (by omega)]
theorem tab_wide (n : Nat) (a : Mx) (r : Nat) : tab n (a r) ++ tab n (dlt r) = tab (2 * n) (wide n a r) := by
  refine List.ext_getElem? fun j => ?_
  unfold tab
  rcases Nat.lt_or_ge j n with h | h
  · rw [List.getElem?_append_left (by simpa using h), List.getElem?_map, List.getElem?_map, List.getElem?_range h, List.getElem?_range (by omega)]
    show some _ = some _
    unfold wide
    rw [if_pos h]
  · rw [List.getElem?_append_right (by simpa using h), List.length_map, List.length_range]
    rcases Nat.lt_or_ge j (2 * n) with h2 | h2
    · rw [List.getElem?_map, List.getElem?_map, List.getElem?_range (show j - n < n by omega), List.getElem?_range h2]
      show some _ = some _
      unfold wide
      rw [if_neg (by omega)]
    · rw [List.getElem?_eq_none (by simp; omega), List.getElem?_eq_none (by simp; omega)]
theorem iniL_all (n : Nat) (a : Mx) : iniL n a n = rowsM n (2 * n) (wide n a) := by
  unfold iniL rowsM
  exact List.map_congr_left fun r hr => by rw [if_pos (List.mem_range.1 hr), tab_wide]
theorem rowsM_set {R C i : Nat} {f f' : Mx} {l : List F} (hi : i < R) (hl : l = tab C (f' i)) (h : ∀ r, r ≠ i → f' r = f r) : (rowsM R C f).set i l = rowsM R C f' := by
  refine List.ext_getElem? fun j => ?_
  by_cases e : i = j
  · subst e
    rw [List.getElem?_set_self (by rw [length_rowsM]; exact hi), rowsM_at f' hi, hl]
  · rw [List.getElem?_set_ne e]
    rcases Nat.lt_or_ge j R with q | q
    · rw [rowsM_at f q, rowsM_at f' q, h j (fun z => e z.symm)]
    · rw [List.getElem?_eq_none (by rw [length_rowsM]; exact q), List.getElem?_eq_none (by rw [length_rowsM]; exact q)]
theorem unit_tab (n i : Nat) (hi : i < n) : (List.replicate n (0 : F)).set i 1 = tab n (dlt i) := by
  refine List.ext_getElem (by simp [tab]) fun j h1 h2 => ?_
  rw [List.getElem_set]
  by_cases e : i = j
  · subst e; simp [tab, dlt_self]
  · simp [tab, e, dlt_ne e]
end Go.Proofs.Ytbepadepepoilaa
