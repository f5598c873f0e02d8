/- aumbryref03.Wide and cleared, walked. -/
import Derived.Test.YtbepadepepoilaaR3b
import Derived.Test.YtbepadepepoilaaSpn
namespace Go.Proofs.Ytbepadepepoilaa
open Go.RowKit
set_option linter.unusedVariables false
set_option linter.unusedSimpArgs false
/-- a matrix, as lists -/
def rowsM (R C : Nat) (f : Mx) : List (List F) := (List.range R).map fun r => tab C (f r)
theorem length_rowsM (R C : Nat) (f : Mx) : (rowsM R C f).length = R := by unfold rowsM; simp
theorem rowsM_at {R C i : Nat} (f : Mx) (h : i < R) : (rowsM R C f)[i]? = some (tab C (f i)) := by
  unfold rowsM
  rw [List.getElem?_map, List.getElem?_range h]; rfl
set_option maxRecDepth 1000000 in
set_option maxHeartbeats 2000000 in
theorem ref03_wide (R C : Nat) (A : Option Addr) (c : Nat) (f : Mx) (w : World) (hR : R ≤ 256) (hC : C ≤ 256) (ha : Bs w A c (matL R C f)) :
    Calls Try.prog 31 #[matV R C A (R * C) c] w fun e w' => ∃ A' c' rs, e = .returned (.slice A' R c') ∧ lsts rs = rowsM R C f ∧ MadeR w w' A' R c' rs := by
  have hcm := ha.mx
  unfold maxLen at hcm
  have hcl := ha.le
  rw [List.length_map, length_matL] at hcl
  have HA := Lib.hid (Sl.alloc ha (.cells #[.int .i64 R, .int .i64 C, .slice A (R * C) c] 24))
  have P : Hid (∀ i, i < R → ∃ p q, p = i * C ∧ q = i * C + C ∧ q ≤ R * C ∧ IntKind.i64.wrap ((i : Int) * (C : Int)) = (p : Int) ∧ IntKind.i64.wrap (((i : Int) + 1) * (C : Int)) = (q : Int)) := fun i hi => by
    have hle : i * C + C ≤ R * C := by rw [← Nat.succ_mul]; exact Nat.mul_le_mul_right _ hi
    have hlo : i * C ≤ 256 * 256 := Nat.mul_le_mul (by omega) hC
    have h1 : (i : Int) * (C : Int) = ((i * C : Nat) : Int) := by simp
    have h2 : ((i : Int) + 1) * (C : Int) = ((i * C + C : Nat) : Int) := by rw [Int.add_mul, h1]; simp
    exact ⟨i * C, i * C + C, rfl, rfl, hle, by rw [h1, IntKind.wrap_i64]; omega, by rw [h2, IntKind.wrap_i64]; omega⟩
  have ROW : Hid (∀ wr, Below (w.heap.size + 1) (w.alloc (.cells #[.int .i64 R, .int .i64 C, .slice A (R * C) c] 24)) wr → ∀ i, i < R → Bs (wr.alloc (.cells #[] 5)) (rowA A c (i * C)) (c - i * C) (tab C (f i))) := fun wr hb i hi => Sl.alloc (Bs.row (Sl.below HA.out (by rw [size_alloc']; exact hb)) hi) _
  have K := Lib.hid (kn1 w 24 #[.int .i64 R, .int .i64 C, .slice A (R * C) c])
  have LR : Hid (∀ i, i < R → (rowsM R C f)[i]? = some (tab C (f i))) := fun i hi => rowsM_at f hi
  have LL : Hid ((rowsM R C f).length = R) := length_rowsM R C f
  clear ha HA
  generalize rowsM R C f = ls at *
  generalize R * C = n at *
  go_enter Try.func31, Try.ntmps31
  go_wp2
  go_loopw [3, 4] (fun v x wr => ∃ (rs : List Row) (A' : Option Addr) (c' : Nat), rs.length ≤ R ∧ x = .int .i64 rs.length ∧ v = .slice A' rs.length c' ∧ lsts rs = ls.take rs.length ∧ wr.ownsRow (w.heap.size + 1) 22 1 (.slice A' rs.length c') rs.length (vals rs) ∧ Grid wr (w.heap.size + 1) rs ∧ Below (w.heap.size + 1) (w.alloc (.cells #[.int .i64 R, .int .i64 C, .slice A n c] 24)) wr) (fun _ x _ => R - (intOf x).toNat)
  case atStart => exact ⟨[], none, 0, Nat.zero_le _, rfl, rfl, rfl, World.ownsRow_nil _ _ _ _, Grid.nil _ _, Below.refl _ _⟩
  case round =>
    obtain ⟨rs, A1, c1, hi, rfl, rfl, hls, hsp, hgr, hbel⟩ := hrel
    have HLS := Lib.hid hls
    have HS := Lib.hid hsp
    have HG := Lib.hid hgr
    have HW := Lib.hid hbel
    have hsz := hbel.size
    rw [size_alloc'] at hsz
    have KR := Lib.hid (K.out.below (by rw [size_alloc']; exact hbel))
    clear hls hsp hgr hbel
    obtain ⟨i, hi0⟩ : ∃ i, rs.length = i := ⟨_, rfl⟩
    have HI := Lib.hid hi0
    rw [hi0] at hi HS ⊢
    clear hi0
    have q0 := (KR.out.at (.head _)).cell 0
    have q1 := (KR.out.at (.head _)).cell 1
    have q2 := (KR.out.at (.head _)).cell 2
    simp only [List.getElem?_toArray, List.getElem?_cons_succ, List.getElem?_cons_zero] at q0 q1 q2
    by_cases hlt : i < R
    · obtain ⟨p, q, hp, hq, hqn, hw1, hw2⟩ := P.out i hlt
      have hr := ROW.out wr HW.out i hlt
      rw [← hp] at hr
      obtain ⟨AR, har⟩ : ∃ AR, rowA A c p = AR := ⟨_, rfl⟩
      rw [har] at hr
      have hif : (if c = p then A else Option.map (fun x => x.add p) A) = AR := har
      have HR := Lib.hid hr
      have hpq : (p : Int) ≤ (q : Int) := by omega
      have hpq2 : p ≤ q := by omega
      have hqc : (q : Int) ≤ (c : Int) := by omega
      have hsub : q - p = C := by omega
      have hwi : IntKind.i64.wrap ((i : Int) + 1) = (i : Int) + 1 := by rw [IntKind.wrap_i64]; omega
      have k0 := ((KR.out.alloc (.cells #[] 5)).at (.head _)).cell 0
      have k1 := ((KR.out.alloc (.cells #[] 5)).at (.head _)).cell 1
      have k2 := ((KR.out.alloc (.cells #[] 5)).at (.head _)).cell 2
      simp only [List.getElem?_toArray, List.getElem?_cons_succ, List.getElem?_cons_zero] at k0 k1 k2
      have HE := Lib.hid (own_empty wr)
      have H1 := Lib.hid (LR.out i hlt)
      have hit : (i : Int) < (R : Int) := by omega
      clear hr har hp hq
      go_wp2_with (first
        | (at_builtin; refine app_bytes _ rfl _ _ rfl wr.heap.size (some ⟨wr.heap.size, 0, none⟩) 0 0 [] rfl HE.out AR (c - p) C (tab C (f i)) rfl HR.out (length_tab _ _) (by omega) (by simp) ?_; intro A3 c3 w3 hown3 hb3; rw [Nat.zero_add, List.nil_append] at hown3; have HO3 := Lib.hid hown3; have HB3 : Hid (Below wr.heap.size wr w3) := (below_alloc wr _).trans hb3; clear hown3 hb3)
        | (at_builtin; refine app_spine _ rfl _ _ rfl (w.heap.size + 1) A1 c1 i (vals rs) rfl (own_below HS.out (HB3.out.trans ((below_alloc w3 _).mono HB3.out.size))) _ 1 (.slice A3 C c3) rfl (lit_row _ rfl) rfl (by omega) ?hb ?_; (case hb => exact Nat.le_trans hsz (Nat.le_trans HB3.out.size (by simp))); intro A4 c4 w4 hown4 hgr4; have HO4 := Lib.hid hown4; have HG4 := Lib.hid hgr4; clear hown4 hgr4))
      go_roundw
      case rel =>
        have hb5 : Below wr.heap.size wr (w3.alloc (.cells #[.slice A3 C c3] 22)) := HB3.out.trans ((below_alloc w3 _).mono HB3.out.size)
        have hs5 := own_below HS.out hb5
        have hlt3 : (tab C (f i)).length = C := length_tab _ _
        have hg3 := (HG.out.snoc HB3.out (r := (A3, c3, tab C (f i))) (by show World.ownsRow _ _ 5 1 (.slice A3 (tab C (f i)).length c3) (tab C (f i)).length _; rw [hlt3]; exact HO3.out) hsz).below (below_alloc w3 (.cells #[.slice A3 C c3] 22))
        have ho4 := HO4.out
        have hvs := vals_snoc rs (A3, c3, tab C (f i))
        unfold rowV at hvs
        simp only [hlt3] at hvs
        rw [hvs] at ho4
        have hlen : (rs ++ [(A3, c3, tab C (f i))]).length = i + 1 := by rw [List.length_append, HI.out, List.length_singleton]
        refine ⟨rs ++ [(A3, c3, tab C (f i))], A4, c4, by rw [hlen]; omega, by rw [hlen]; go_num, by rw [hlen], by rw [hlen]; exact lsts_snoc (by rw [← HI.out]; exact HLS.out) H1.out, by rw [hlen]; exact ho4, hg3.grown hs5 (by decide) HG4.out, own_grow (HW.out.trans (hb5.mono hsz)) hs5 HG4.out (Nat.le_trans hsz hb5.size)⟩
      case measure => simp [intOf]; omega
    · have hie : i = R := by omega
      subst hie
      go_wp2
      go_ret
      refine ⟨_, _, rs, rfl, ?_, own_mono HS.out (by omega), HG.out.mono (by omega), (below_alloc w _).trans (HW.out.mono (by omega))⟩
      rw [HLS.out, HI.out]; exact List.take_of_length_le (by rw [LL.out]; exact Nat.le_refl _)
set_option maxRecDepth 1000000 in
set_option maxHeartbeats 4000000 in
theorem ref03_cleared (N j : Nat) (A1 : Option Addr) (c1 : Nat) (l1 : List F) (A2 : Option Addr) (c2 : Nat) (l2 : List F) (w : World) (h1 : Bs w A1 c1 l1) (h2 : Bs w A2 c2 l2) (hn1 : l1.length = N) (hn2 : l2.length = N) (hj : j < N) (hN : N ≤ 1000) (hp : l2.getD j 0 ≠ 0) :
    Calls Try.prog 32 #[.slice A1 N c1, .slice A2 N c2, .int .i64 j] w fun e w' => ∃ A' c', e = .returned (.slice A' N c') ∧ w'.ownsRow w.heap.size 5 1 (.slice A' N c') N ((tab N fun i => l1.getD i 0 + l1.getD j 0 * F.inv (l2.getD j 0) * l2.getD i 0).map bv) ∧ Below w.heap.size w w' := by
  have H1 := Lib.hid h1
  have H2 := Lib.hid h2
  have L1 := Lib.hid hn1
  have L2 := Lib.hid hn2
  obtain ⟨b1, o1, hA1, _, hc1⟩ := Bs.at' h1 (by omega)
  obtain ⟨b2, o2, hA2, _, hc2⟩ := Bs.at' h2 (by omega)
  have y1 := hc1 j (by omega)
  have y2 := hc2 j (by omega)
  subst hA1
  subst hA2
  obtain ⟨x, hx⟩ : ∃ x, l1.getD j 0 * F.inv (l2.getD j 0) = x := ⟨_, rfl⟩
  have hjt : (j : Int) < (N : Int) := by omega
  have hj0 : (0 : Int) ≤ (j : Int) := by omega
  have DV : Hid (∀ w, Calls Try.prog 33 #[.int .u8 (l1.getD j 0).n, .int .u8 (l2.getD j 0).n] w fun e w' => e = .returned (.tuple #[.int .u8 x.n, .int .i64 0]) ∧ w = w') := fun w => by
    have := ref_div (l1.getD j 0) (l2.getD j 0) w
    rw [if_neg hp, hx] at this
    exact this
  rw [hx]
  clear hx h1 h2 hn1 hn2 hc1 hc2 hp
  generalize l1.getD j 0 = u at *
  generalize l2.getD j 0 = v at *
  go_enter Try.func32, Try.ntmps32
  go_wp2
  go_region_law (go_simp; go_at_call 33; (with_reducible refine (DV.out _).mono ?_); rintro e wx ⟨rfl, rfl⟩)
  all_goals
    go_wp2
    clear y1 y2
    go_loopw [9, 10] (fun v y wr => ∃ (i : Nat) (A' : Option Addr) (c' : Nat), i ≤ N ∧ y = .int .i64 i ∧ v = .slice A' i c' ∧ wr.ownsRow w.heap.size 5 1 (.slice A' i c') i ((tab i fun i => l1.getD i 0 + x * l2.getD i 0).map bv) ∧ Below w.heap.size w wr) (fun _ y _ => N - (intOf y).toNat)
    case atStart => exact ⟨0, none, 0, Nat.zero_le _, rfl, rfl, World.ownsRow_nil _ _ _ _, below_drew0 w 1⟩
    case round =>
      obtain ⟨i, A5, c5, hi, rfl, rfl, hown, hbel⟩ := hrel
      have hsz := hbel.size
      have HO := Lib.hid hown
      have HB := Lib.hid hbel
      clear hown hbel
      by_cases hlt : i < N
      · have hit : (i : Int) < (N : Int) := by omega
        obtain ⟨_, _, hA, _, hc1⟩ := Bs.at' (H1.out.below HB.out) (by rw [L1.out]; omega)
        injection hA with hA
        obtain ⟨rfl, rfl⟩ : b1 = _ ∧ o1 = _ := by injection hA with e1 e2; exact ⟨e1, e2⟩
        obtain ⟨_, _, hA, _, hc2⟩ := Bs.at' (H2.out.below HB.out) (by rw [L2.out]; omega)
        injection hA with hA
        obtain ⟨rfl, rfl⟩ : b2 = _ ∧ o2 = _ := by injection hA with e1 e2; exact ⟨e1, e2⟩
        have y1 := hc1 i (by rw [L1.out]; exact hlt)
        have y2 := hc2 i (by rw [L2.out]; exact hlt)
        have HT : Hid (tab (i + 1) (fun i => l1.getD i 0 + x * l2.getD i 0) = tab i (fun i => l1.getD i 0 + x * l2.getD i 0) ++ [l1.getD i 0 + x * l2.getD i 0]) := tab_succ' _ _
        clear hc1 hc2 hA
        generalize l1.getD i 0 = a at *
        generalize l2.getD i 0 = b at *
        have hxor := xor_n a (x * b)
        go_wp2
        go_region_law (first
          | (refine step_app_bytes rfl _ _ rfl w.heap.size A5 c5 i (tab i fun i => l1.getD i 0 + x * l2.getD i 0) rfl (own_below HO.out ⟨rfl, rfl, rfl, by simp, fun k hk => heap_alloc_old _ _ hk⟩) _ _ 1 [a + x * b] rfl ?litbs rfl (by omega) (by simp; omega) ?_; (case litbs => first | exact lit_bs rfl rfl rfl (by decide) | exact lit_drew (a + x * b) rfl); intro A6 c6 w6 hown6 hgr6; have HB6 : Hid (Below w.heap.size w w6) := own_grow' hgr6 HB.out HO.out ⟨rfl, rfl, rfl, by simp, fun k hk => heap_alloc_old _ _ hk⟩ hsz; have HO6 := Lib.hid hown6; clear hown6 hgr6)
          | (go_simp; go_at_call 28; (with_reducible refine (ref_mul _ _ _).mono ?_); rintro e wx ⟨rfl, rfl⟩))
        all_goals
          go_wp2
          go_roundw
          case rel => exact ⟨i + 1, A6, c6, by omega, by go_num, rfl, by rw [HT.out]; exact HO6.out, HB6.out⟩
          case measure => simp [intOf]; omega
      · have hie : i = N := by omega
        subst hie
        go_wp2
        go_ret
        exact ⟨A5, c5, rfl, HO.out, HB.out⟩
end Go.Proofs.Ytbepadepepoilaa
