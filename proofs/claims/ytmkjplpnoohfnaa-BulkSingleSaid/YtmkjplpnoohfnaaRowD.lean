/- Appends to a spine; aumbryref06.Copied, walked. -/
import Derived.Test.YtmkjplpnoohfnaaRowC
namespace Go.Proofs.Ytmkjplpnoohfnaa
open Go.RowKit
set_option linter.unusedVariables false
set_option linter.unusedSimpArgs false
theorem lit_row {w : World} {n : Nat} (u : Value) (hn : n = w.heap.size) : Sl (w.alloc (.cells #[u] 28)) (some ⟨n, 0, none⟩) 1 [u] := by
  subst hn
  exact ⟨by simp, by unfold maxLen; omega, .inr ⟨w.heap.size, 0, rfl, by simp, fun i v hv => by
    rw [Nat.zero_add, World.cell?_alloc_new]
    simpa using hv⟩⟩
theorem app_spine {ops : Array Oper} {rest : List Oper} {o : Oper} {a : Act} {Q : Exit → Act → World → Prop} (w : World) (hg : o.guard = none) (s x : Operand)
    (ho : o.op = .call { callee := .builtin .append, args := #[s, x], argTypes := #[61, 61] })
    (B : Nat) (A1 : Option Addr) (c1 n : Nat) (xs : List Value) (hs : a.eval s = .slice A1 n c1) (hown : w.ownsRow B 28 1 (.slice A1 n c1) n xs)
    (A : Option Addr) (c : Nat) (u : Value) (hx : a.eval x = .slice A 1 c) (hl : Sl w A c [u]) (hu : u.oneCell' = true) (hN : n ≤ 100000) (hB : B ≤ w.heap.size)
    (hK : ∀ A' c' w', w'.ownsRow B 28 1 (.slice A' (n + 1) c') (n + 1) (xs ++ [u]) → w.grownBy w' (Value.slice A1 n c1).ownBlock → wpList Try.prog ops Q rest (a.put o.dst (.slice A' (n + 1) c')) w') : wpList Try.prog ops Q (o :: rest) a w := by
  refine app_sl w hg s x 61 ho B 28 (.slice none 0 0) 24 Try.underlying61 info_row rfl _ n xs hs hown A c [u] (by simpa using hx) hl (fun v hv => by simp at hv; subst hv; exact hu) (by decide) (by simp; omega) hB ?_
  intro v' w' h1 h2
  simp only [List.length_singleton] at h1
  obtain ⟨A', c', rfl⟩ := own_form h1
  exact hK A' c' w' h1 h2
theorem vals_snoc (rs : List Row) (r : Row) : vals rs ++ [rowV r] = vals (rs ++ [r]) := by unfold vals; rw [List.map_append]; rfl
set_option maxRecDepth 1000000 in
set_option maxHeartbeats 2000000 in
theorem ref06_copied (A : Option Addr) (n c : Nat) (vs : List Value) (ls : List (List F)) (w : World) (ha : Sl w A c vs) (hb : Bss w vs ls) (hn : ls.length = n) (hm : n ≤ 1000) (hl : ∀ l, l ∈ ls → l.length ≤ 100000) :
    Calls Try.prog 79 #[.slice A n c] w fun e w' => ∃ A' c' rs, e = .returned (.slice A' n c') ∧ lsts rs = ls ∧ MadeR w w' A' n c' rs := by
  have HA := Lib.hid ha
  have HB := Lib.hid hb
  have HN := Lib.hid hn
  have HL := Lib.hid hl
  clear ha hb hn hl
  go_enter Try.func79, Try.ntmps79
  go_wp2
  go_loopw [3, 4] (fun v x wr => ∃ (rs : List Row) (A' : Option Addr) (c' : Nat), rs.length ≤ n ∧ x = .int .i64 rs.length ∧ v = .slice A' rs.length c' ∧ lsts rs = ls.take rs.length ∧ wr.ownsRow w.heap.size 28 1 (.slice A' rs.length c') rs.length (vals rs) ∧ Grid wr w.heap.size rs ∧ Below w.heap.size w wr) (fun _ x _ => n - (intOf x).toNat)
  case atStart => exact ⟨[], none, 0, Nat.zero_le _, rfl, rfl, rfl, World.ownsRow_nil _ _ _ _, Grid.nil _ _, Below.refl _ _⟩
  case round =>
    obtain ⟨rs, A1, c1, hi, rfl, rfl, hls, hsp, hgr, hbel⟩ := hrel
    have HLS := Lib.hid hls
    have HS := Lib.hid hsp
    have HG := Lib.hid hgr
    have HW := Lib.hid hbel
    clear hls hsp hgr hbel
    obtain ⟨i, hi0⟩ : ∃ i, rs.length = i := ⟨_, rfl⟩
    have HI := Lib.hid hi0
    rw [hi0] at hi HS ⊢
    clear hi0
    by_cases hlt : i < n
    · obtain ⟨A2, c2, l2, h1, h2, h3⟩ := (HB.out.below HW.out).at' (i := i) (by rw [HN.out]; exact hlt)
      obtain ⟨b, o, hA, _, hc⟩ := Sl.at' ((HA.out.below HW.out).alloc (.cells #[] 5)) (by rw [HB.out.1, HN.out]; omega)
      subst hA
      have y := hc i _ h2
      have hle := HL.out l2 (List.mem_of_getElem? h1)
      have H1 := Lib.hid h1
      have H3 := Lib.hid (Sl.alloc h3 (.cells #[] 5))
      have HE := Lib.hid (own_empty wr)
      clear hc h1 h2 h3
      have hit : (i : Int) < (n : Int) := by omega
      go_wp2_with (first
        | (at_builtin; refine app_bytes _ rfl _ _ rfl wr.heap.size (some ⟨wr.heap.size, 0, none⟩) 0 0 [] rfl HE.out A2 c2 l2.length l2 rfl H3.out rfl (by omega) (by simp) ?_; intro A3 c3 w3 hown3 hb3; rw [Nat.zero_add, List.nil_append] at hown3; have HO3 := Lib.hid hown3; have HB3 : Hid (Below wr.heap.size wr w3) := (below_alloc wr _).trans hb3; clear hown3 hb3)
        | (at_builtin; refine app_spine _ rfl _ _ rfl w.heap.size A1 c1 i (vals rs) rfl (own_below HS.out (HB3.out.trans ((below_alloc w3 _).mono HB3.out.size))) _ 1 (.slice A3 l2.length c3) rfl (lit_row _ rfl) rfl (by omega) ?hb ?_; (case hb => exact Nat.le_trans HW.out.size (Nat.le_trans HB3.out.size (by simp))); intro A4 c4 w4 hown4 hgr4; have HO4 := Lib.hid hown4; have HG4 := Lib.hid hgr4; clear hown4 hgr4))
      go_roundw
      case rel =>
        have hb5 : Below wr.heap.size wr (w3.alloc (.cells #[.slice A3 l2.length c3] 28)) := HB3.out.trans ((below_alloc w3 _).mono HB3.out.size)
        have hs5 := own_below HS.out hb5
        have hg3 := (HG.out.snoc HB3.out (r := (A3, c3, l2)) HO3.out HW.out.size).below (below_alloc w3 (.cells #[.slice A3 l2.length c3] 28))
        have ho4 := HO4.out
        rw [show vals rs ++ [.slice A3 l2.length c3] = vals (rs ++ [(A3, c3, l2)]) from vals_snoc rs (A3, c3, l2)] at ho4
        have hlen : (rs ++ [(A3, c3, l2)]).length = i + 1 := by rw [List.length_append, HI.out, List.length_singleton]
        refine ⟨rs ++ [(A3, c3, l2)], A4, c4, by rw [hlen]; omega, by rw [hlen]; go_num, by rw [hlen], by rw [hlen]; exact lsts_snoc (by rw [← HI.out]; exact HLS.out) H1.out, by rw [hlen]; exact ho4, hg3.grown hs5 (by decide) HG4.out, own_grow (HW.out.trans (hb5.mono HW.out.size)) hs5 HG4.out (Nat.le_trans HW.out.size hb5.size)⟩
      case measure => simp [intOf]; omega
    · have hie : i = n := by omega
      subst hie
      go_wp2
      go_ret
      refine ⟨_, _, rs, rfl, ?_, HS.out, HG.out, HW.out⟩
      rw [HLS.out, HI.out]; exact List.take_of_length_le (by rw [HN.out]; exact Nat.le_refl _)
end Go.Proofs.Ytmkjplpnoohfnaa
