/- Package matrix, walked: Check, row, empty, adds. -/
import Derived.Test.YtbepadepepoilaaRef01
import Derived.Test.YtbepadepepoilaaApp
import Derived.Test.YtbepadepepoilaaBlk
import Derived.Test.YtbepadepepoilaaMatL
import Derived.Deep.RegionLaw
import Derived.Laws.ResultCell
import Derived.StillTailTactics
import Derived.Outline
namespace Go.Proofs.Ytbepadepepoilaa
open Go.RowKit
def mok (R C : Int) (n : Nat) : Prop := 0 ≤ R ∧ R ≤ 256 ∧ 0 ≤ C ∧ C ≤ 256 ∧ (n : Int) = R * C
theorem mx_in_true (n : Int) (h0 : 0 ≤ n) (h1 : n ≤ 256) (w : World) : Calls Try.prog 35 #[.int .i64 n] w fun e w' => e = .returned (.bool true) ∧ w = w' := by
  go_enter Try.func35, Try.ntmps35
  go_wp2
  go_ret
  exact ⟨rfl, rfl⟩
theorem mx_in_false (n : Int) (h : n < 0 ∨ 256 < n) (w : World) : Calls Try.prog 35 #[.int .i64 n] w fun e w' => e = .returned (.bool false) ∧ w = w' := by
  by_cases h0 : 0 ≤ n
  · have h1 : 256 < n := by omega
    have e1 : decide (n ≤ 256) = false := decide_eq_false (by omega)
    have e0 : decide (0 ≤ n) = true := decide_eq_true h0
    clear h
    go_enter Try.func35, Try.ntmps35
    go_wp2
    go_ret
    exact ⟨rfl, rfl⟩
  · have e0 : decide (0 ≤ n) = false := decide_eq_false h0
    clear h
    go_enter Try.func35, Try.ntmps35
    go_wp2
    go_ret
    exact ⟨rfl, rfl⟩
theorem mul_bd {R C : Int} (h0 : 0 ≤ R) (h1 : R ≤ 256) (h2 : 0 ≤ C) (h3 : C ≤ 256) : 0 ≤ R * C ∧ R * C ≤ 65536 := by
  refine ⟨Int.mul_nonneg h0 h2, ?_⟩
  have := Int.mul_le_mul h1 h3 h2 (by omega : (0 : Int) ≤ 256)
  omega
theorem mx_check_ok (R C : Int) (A : Option Addr) (n c : Nat) (h : mok R C n) (w : World) :
    Calls Try.prog 17 #[matV R C A n c] w fun e w' => e = .returned (.int .i64 0) ∧ Below w.heap.size w w' := by
  obtain ⟨h0, h1, h2, h3, h4⟩ := h
  have hb := mul_bd h0 h1 h2 h3
  have I1 : Hid (∀ w, Calls Try.prog 35 #[.int .i64 R] w fun e w' => e = .returned (.bool true) ∧ w = w') := fun w => mx_in_true R h0 h1 w
  have I2 : Hid (∀ w, Calls Try.prog 35 #[.int .i64 C] w fun e w' => e = .returned (.bool true) ∧ w = w') := fun w => mx_in_true C h2 h3 w
  have hw : IntKind.i64.wrap (R * C) = (n : Int) := by rw [h4, IntKind.wrap_i64]; omega
  clear h4 hb
  go_enter Try.func17, Try.ntmps17
  go_wp2_with (first | (go_at_call 35; (with_reducible refine (I1.out _).mono ?_); rintro e w1 ⟨rfl, rfl⟩) | (go_at_call 35; (with_reducible refine (I2.out _).mono ?_); rintro e w1 ⟨rfl, rfl⟩))
  go_ret
  exact ⟨rfl, below_alloc _ _⟩
theorem mx_check_bad (R C : Int) (A : Option Addr) (n c : Nat) (h : ¬ mok R C n) (w : World) :
    Calls Try.prog 17 #[matV R C A n c] w fun e w' => e = .returned (.int .i64 30) ∧ Below w.heap.size w w' := by
  by_cases g0 : 0 ≤ R ∧ R ≤ 256
  · have I1 : Hid (∀ w, Calls Try.prog 35 #[.int .i64 R] w fun e w' => e = .returned (.bool true) ∧ w = w') := fun w => mx_in_true R g0.1 g0.2 w
    by_cases g1 : 0 ≤ C ∧ C ≤ 256
    · have I2 : Hid (∀ w, Calls Try.prog 35 #[.int .i64 C] w fun e w' => e = .returned (.bool true) ∧ w = w') := fun w => mx_in_true C g1.1 g1.2 w
      have hb := mul_bd g0.1 g0.2 g1.1 g1.2
      have hw : IntKind.i64.wrap (R * C) = R * C := by rw [IntKind.wrap_i64]; omega
      have hne : ¬ (n : Int) = R * C := fun e => h ⟨g0.1, g0.2, g1.1, g1.2, e⟩
      have e1 : ((n : Int) == R * C) = false := by rw [beq_eq_false_iff_ne]; exact hne
      have e2 : ((n : Int) != R * C) = true := by rw [bne_iff_ne]; exact hne
      clear h hne g0 g1
      go_enter Try.func17, Try.ntmps17
      go_wp2_with (first | (go_at_call 35; (with_reducible refine (I1.out _).mono ?_); rintro e w1 ⟨rfl, rfl⟩) | (go_at_call 35; (with_reducible refine (I2.out _).mono ?_); rintro e w1 ⟨rfl, rfl⟩))
      go_ret
      exact ⟨rfl, below_alloc _ _⟩
    · have I2 : Hid (∀ w, Calls Try.prog 35 #[.int .i64 C] w fun e w' => e = .returned (.bool false) ∧ w = w') := fun w => mx_in_false C (by omega) w
      clear h g0 g1
      go_enter Try.func17, Try.ntmps17
      go_wp2_with (first | (go_at_call 35; (with_reducible refine (I1.out _).mono ?_); rintro e w1 ⟨rfl, rfl⟩) | (go_at_call 35; (with_reducible refine (I2.out _).mono ?_); rintro e w1 ⟨rfl, rfl⟩))
      go_ret
      exact ⟨rfl, below_alloc _ _⟩
  · have I1 : Hid (∀ w, Calls Try.prog 35 #[.int .i64 R] w fun e w' => e = .returned (.bool false) ∧ w = w') := fun w => mx_in_false R (by omega) w
    clear h g0
    go_enter Try.func17, Try.ntmps17
    go_wp2_with (go_at_call 35; (with_reducible refine (I1.out _).mono ?_); rintro e w1 ⟨rfl, rfl⟩)
    go_ret
    exact ⟨rfl, below_alloc _ _⟩
theorem size_alloc' (w : World) (o : Obj) : (w.alloc o).heap.size = w.heap.size + 1 := by simp
theorem results_cell1 {fn : Func} {p : Tmp} {ty : TypeId} (h : fn.results = #[.cell p ty]) (tmps : Array Value) (P : Program) (w : World) :
    (results fn tmps).run P w = ((asAddr (tmps.getD p undef)).run P w).andThen fun a w₁ => (loadVar ty a).run P w₁ := by
  simp only [results, h]
  simp [Sem.run_bind, Result.andThen]
/-- a row's address -/
def rowA (A : Option Addr) (c lo : Nat) : Option Addr := if c = lo then A else A.map (·.add lo)
theorem mx_row (rows cols r : Nat) (A : Option Addr) (n c : Nat) (hr : r < rows) (hr2 : rows ≤ 256) (hc : cols ≤ 512) (hn : n = rows * cols) (hnc : n ≤ c) (hc2 : c ≤ maxLen) (w : World) :
    Calls Try.prog 26 #[matV rows cols A n c, .int .i64 r] w fun e w' => e = .returned (.slice (rowA A c (r * cols)) cols (c - r * cols)) ∧ Below w.heap.size w w' := by
  unfold maxLen at hc2
  have hle : r * cols + cols ≤ n := by rw [hn, ← Nat.succ_mul]; exact Nat.mul_le_mul_right _ hr
  have hlo : r * cols ≤ 256 * 512 := Nat.mul_le_mul (by omega) hc
  have h1 : (r : Int) * (cols : Int) = ((r * cols : Nat) : Int) := by simp
  have h2 : ((r : Int) + 1) * (cols : Int) = ((r * cols + cols : Nat) : Int) := by rw [Int.add_mul, h1]; simp
  have w1 : IntKind.i64.wrap ((r : Int) * (cols : Int)) = ((r * cols : Nat) : Int) := by rw [h1, IntKind.wrap_i64]; omega
  have w2 : IntKind.i64.wrap (((r : Int) + 1) * (cols : Int)) = ((r * cols + cols : Nat) : Int) := by rw [h2, IntKind.wrap_i64]; omega
  unfold rowA
  generalize r * cols = lo at *
  clear hn
  go_enter Try.func26, Try.ntmps26
  go_wp2
  all_goals
    go_ret
    exact ⟨rfl, below_alloc _ _⟩
theorem add_at (b o i : Nat) : (⟨b, o, none⟩ : Addr).add i = ⟨b, o + i, none⟩ := by
  unfold Addr.add; split
  · rename_i h; subst h; rfl
  · rfl
theorem Sl.row {w : World} {A : Option Addr} {c lo m : Nat} {xs : List Value} (h : Sl w A c xs) (hm : lo + m ≤ xs.length) : Sl w (rowA A c lo) (c - lo) ((xs.drop lo).take m) := by
  have hle := h.le
  have hmx := h.mx
  refine ⟨by rw [List.length_take, List.length_drop]; omega, by omega, ?_⟩
  by_cases e : c = lo
  · have : (xs.drop lo).take m = [] := by
      have : m = 0 := by omega
      rw [this]; rfl
    exact .inl this
  · rcases h.cells with h | ⟨b, o, hA, hl, hc⟩
    · exact .inl (by rw [h]; simp)
    · refine .inr ⟨b, o + lo, by rw [rowA, if_neg e, hA]; simp [add_at], hl, fun i v hv => ?_⟩
      rw [List.getElem?_take] at hv
      split at hv
      · rw [List.getElem?_drop] at hv
        rw [Nat.add_assoc]; exact hc _ v hv
      · cases hv
set_option maxRecDepth 100000 in
theorem mx_empty (r c : Nat) (hr : r ≤ 256) (hc : c ≤ 512) (w : World) :
    Calls Try.prog 25 #[.int .i64 r, .int .i64 c] w fun e w' => ∃ g, e = .returned (matV r c (some ⟨g, 0, none⟩) (r * c) (r * c)) ∧ w'.ownsRow w.heap.size 5 1 (.slice (some ⟨g, 0, none⟩) (r * c) (r * c)) (r * c) ((matL r c fun _ _ => 0).map bv) ∧ Below w.heap.size w w' := by
  have hp : r * c ≤ 256 * 512 := Nat.mul_le_mul hr hc
  have h1 : (r : Int) * (c : Int) = ((r * c : Nat) : Int) := by simp
  have w1 : IntKind.i64.wrap ((r : Int) * (c : Int)) = ((r * c : Nat) : Int) := by rw [h1, IntKind.wrap_i64]; omega
  have hz : (matL r c fun _ _ => 0).map bv = (List.replicate (r * c) (0 : F)).map bv := by rw [matL_zero, List.map_replicate]; rfl
  rw [hz]
  clear hz
  generalize r * c = n at *
  go_enter Try.func25, Try.ntmps25
  go_wp2_with (refine make_bytes _ rfl _ _ rfl .i64 .i64 (n : Int) (n : Int) n rfl rfl rfl rfl ?b ?_; (case b => omega); intro w1 hown hbel; have hk1 := (Blk.new w #[.int .i64 0, .int .i64 0, .slice none 0 0] 24).below hbel; have HK := Lib.hid hk1; have HO := Lib.hid hown; have HB := Lib.hid hbel; have g0 := hk1.frozen 0; have g1 := hk1.frozen 1; have g2 := hk1.frozen 2; have f0 := hk1.cell 0; have f1 := hk1.cell 1; have f2 := hk1.cell 2; simp only [List.getElem?_toArray, List.getElem?_cons_succ, List.getElem?_cons_zero] at f0 f1 f2; clear hk1 hown hbel)
  have hfin := (((HK.out.set 0 (.int .i64 (r : Int))).set 1 (.int .i64 (c : Int))).set 2 (.slice (some ⟨w.heap.size + 1, 0, none⟩) n n))
  have h3 := hfin.cell 0
  have h4 := hfin.cell 1
  have h5 := hfin.cell 2
  simp only [List.getElem?_toArray, List.getElem?_cons_succ, List.getElem?_cons_zero, List.setIfInBounds_toArray, List.set_cons_zero, List.set_cons_succ] at h3 h4 h5
  refine bodyPost_ret (v := matV r c (some ⟨w.heap.size + 1, 0, none⟩) n n) ?_ rfl ?_
  · rw [results_cell1 rfl]
    go_simp
  · have hle : w.heap.size ≤ w.heap.size := Nat.le_refl _
    have h0 := HB.out
    have ho := HO.out
    rw [size_alloc'] at h0 ho
    refine ⟨w.heap.size + 1, rfl, ?_, (((below_alloc w _).trans (h0.mono (Nat.le_succ _))).setCell hle _ |>.setCell hle _).setCell hle _⟩
    have NE := own_ne_blk ho HK.out (by decide)
    exact own_mono (ownsRow_setCell_other (ownsRow_setCell_other (ownsRow_setCell_other ho NE _) NE _) NE _) (Nat.le_succ _)
end Go.Proofs.Ytbepadepepoilaa
