/- Package cauchy where so many shards may not be; aumbryref03.Same. -/
import Derived.Test.YtbepadepepoilaaRef05
import Derived.Test.YtbepadepepoilaaSame
namespace Go.Proofs.Ytbepadepepoilaa
open Go.RowKit
def i64ok (k : Int) : Prop := -9223372036854775808 ≤ k ∧ k ≤ 9223372036854775807
abbrev noMat : Value := .agg #[.int .i64 0, .int .i64 0, .slice none 0 0]
set_option maxRecDepth 100000 in
theorem made_bad_Parity (b : Nat) (k m rows cols : Int) (hk : i64ok k) (hm : i64ok m) (hkm : ¬ okkm k m) (a1 a2 : Addr) (w : World) :
    Calls Try.prog 46 #[fp b, .int .i64 k, .int .i64 m, .int .i64 rows, .int .i64 cols, .func (.func 63) #[] #[.pointer (some a1), .pointer (some a2)]] w fun e w' => e = .returned (.tuple #[noMat, .int .i64 50]) ∧ Below w.heap.size w w' := by
  have CK : Hid (∀ w, Calls Try.prog 36 #[.int .i64 k, .int .i64 m] w fun e w' => e = .returned (.int .i64 50) ∧ w = w') := fun w => cauchy_check_bad k m hk hm hkm w
  have HR : Hid (Blk (w.alloc (.cells #[.int .i64 0, .int .i64 0, .slice none 0 0] 24)) w.heap.size 24 #[.int .i64 0, .int .i64 0, .slice none 0 0]) := Blk.new w _ _
  have f0 := HR.out.cell 0
  have f1 := HR.out.cell 1
  have f2 := HR.out.cell 2
  have g0 := HR.out.frozen 0
  have g1 := HR.out.frozen 1
  have g2 := HR.out.frozen 2
  simp only [List.getElem?_toArray, List.getElem?_cons_succ, List.getElem?_cons_zero] at f0 f1 f2
  clear hkm hk hm
  unfold fp
  go_enter Try.func46, Try.ntmps46
  go_wp2_with (go_at_call 36; (with_reducible refine (CK.out _).mono ?_); rintro e w1 ⟨rfl, rfl⟩)
  have hfin := (((HR.out.set 0 (.int .i64 0)).set 1 (.int .i64 0)).set 2 (.slice none 0 0))
  have h3 := hfin.cell 0
  have h4 := hfin.cell 1
  have h5 := hfin.cell 2
  simp only [List.getElem?_toArray, List.getElem?_cons_succ, List.getElem?_cons_zero, List.setIfInBounds_toArray, List.set_cons_zero, List.set_cons_succ] at h3 h4 h5
  refine bodyPost_ret (v := .tuple #[noMat, .int .i64 50]) ?_ rfl ?_
  · rw [results_cell_tmp rfl]
    go_simp
  · exact ⟨rfl, below_alloc w _⟩
set_option maxRecDepth 100000 in
theorem ref05_bad_Parity (k m : Int) (hk : i64ok k) (hm : i64ok m) (hkm : ¬ okkm k m) (w : World) :
    Calls Try.prog 56 #[.int .i64 k, .int .i64 m] w fun e w' => e = .returned (.tuple #[noMat, .int .i64 50]) ∧ Below w.heap.size w w' := by
  have CK : Hid (∀ w, Calls Try.prog 53 #[.int .i64 k, .int .i64 m] w fun e w' => e = .returned (.int .i64 50) ∧ w = w') := fun w => ref05_check_bad k m hk hm hkm w
  have HR : Hid (Blk (w.alloc (.cells #[.int .i64 0, .int .i64 0, .slice none 0 0] 24)) w.heap.size 24 #[.int .i64 0, .int .i64 0, .slice none 0 0]) := Blk.new w _ _
  have f0 := HR.out.cell 0
  have f1 := HR.out.cell 1
  have f2 := HR.out.cell 2
  have g0 := HR.out.frozen 0
  have g1 := HR.out.frozen 1
  have g2 := HR.out.frozen 2
  simp only [List.getElem?_toArray, List.getElem?_cons_succ, List.getElem?_cons_zero] at f0 f1 f2
  clear hkm hk hm
  go_enter Try.func56, Try.ntmps56
  go_wp2_with (go_at_call 53; (with_reducible refine (CK.out _).mono ?_); rintro e w1 ⟨rfl, rfl⟩)
  have hfin := (((HR.out.set 0 (.int .i64 0)).set 1 (.int .i64 0)).set 2 (.slice none 0 0))
  have h3 := hfin.cell 0
  have h4 := hfin.cell 1
  have h5 := hfin.cell 2
  simp only [List.getElem?_toArray, List.getElem?_cons_succ, List.getElem?_cons_zero, List.setIfInBounds_toArray, List.set_cons_zero, List.set_cons_succ] at h3 h4 h5
  refine bodyPost_ret (v := .tuple #[noMat, .int .i64 50]) ?_ rfl ?_
  · rw [results_cell_tmp rfl]
    go_simp
  · exact ⟨rfl, below_alloc w _⟩
set_option maxRecDepth 100000 in
theorem made_bad_Generator (b : Nat) (k m rows cols : Int) (hk : i64ok k) (hm : i64ok m) (hkm : ¬ okkm k m) (a1 a2 : Addr) (w : World) :
    Calls Try.prog 46 #[fp b, .int .i64 k, .int .i64 m, .int .i64 rows, .int .i64 cols, .func (.func 47) #[] #[.pointer (some a1), .pointer (some a2)]] w fun e w' => e = .returned (.tuple #[noMat, .int .i64 50]) ∧ Below w.heap.size w w' := by
  have CK : Hid (∀ w, Calls Try.prog 36 #[.int .i64 k, .int .i64 m] w fun e w' => e = .returned (.int .i64 50) ∧ w = w') := fun w => cauchy_check_bad k m hk hm hkm w
  have HR : Hid (Blk (w.alloc (.cells #[.int .i64 0, .int .i64 0, .slice none 0 0] 24)) w.heap.size 24 #[.int .i64 0, .int .i64 0, .slice none 0 0]) := Blk.new w _ _
  have f0 := HR.out.cell 0
  have f1 := HR.out.cell 1
  have f2 := HR.out.cell 2
  have g0 := HR.out.frozen 0
  have g1 := HR.out.frozen 1
  have g2 := HR.out.frozen 2
  simp only [List.getElem?_toArray, List.getElem?_cons_succ, List.getElem?_cons_zero] at f0 f1 f2
  clear hkm hk hm
  unfold fp
  go_enter Try.func46, Try.ntmps46
  go_wp2_with (go_at_call 36; (with_reducible refine (CK.out _).mono ?_); rintro e w1 ⟨rfl, rfl⟩)
  have hfin := (((HR.out.set 0 (.int .i64 0)).set 1 (.int .i64 0)).set 2 (.slice none 0 0))
  have h3 := hfin.cell 0
  have h4 := hfin.cell 1
  have h5 := hfin.cell 2
  simp only [List.getElem?_toArray, List.getElem?_cons_succ, List.getElem?_cons_zero, List.setIfInBounds_toArray, List.set_cons_zero, List.set_cons_succ] at h3 h4 h5
  refine bodyPost_ret (v := .tuple #[noMat, .int .i64 50]) ?_ rfl ?_
  · rw [results_cell_tmp rfl]
    go_simp
  · exact ⟨rfl, below_alloc w _⟩
set_option maxRecDepth 100000 in
theorem ref05_bad_Generator (k m : Int) (hk : i64ok k) (hm : i64ok m) (hkm : ¬ okkm k m) (w : World) :
    Calls Try.prog 41 #[.int .i64 k, .int .i64 m] w fun e w' => e = .returned (.tuple #[noMat, .int .i64 50]) ∧ Below w.heap.size w w' := by
  have CK : Hid (∀ w, Calls Try.prog 53 #[.int .i64 k, .int .i64 m] w fun e w' => e = .returned (.int .i64 50) ∧ w = w') := fun w => ref05_check_bad k m hk hm hkm w
  have HR : Hid (Blk (w.alloc (.cells #[.int .i64 0, .int .i64 0, .slice none 0 0] 24)) w.heap.size 24 #[.int .i64 0, .int .i64 0, .slice none 0 0]) := Blk.new w _ _
  have f0 := HR.out.cell 0
  have f1 := HR.out.cell 1
  have f2 := HR.out.cell 2
  have g0 := HR.out.frozen 0
  have g1 := HR.out.frozen 1
  have g2 := HR.out.frozen 2
  simp only [List.getElem?_toArray, List.getElem?_cons_succ, List.getElem?_cons_zero] at f0 f1 f2
  clear hkm hk hm
  go_enter Try.func41, Try.ntmps41
  go_wp2_with (go_at_call 53; (with_reducible refine (CK.out _).mono ?_); rintro e w1 ⟨rfl, rfl⟩)
  have hfin := (((HR.out.set 0 (.int .i64 0)).set 1 (.int .i64 0)).set 2 (.slice none 0 0))
  have h3 := hfin.cell 0
  have h4 := hfin.cell 1
  have h5 := hfin.cell 2
  simp only [List.getElem?_toArray, List.getElem?_cons_succ, List.getElem?_cons_zero, List.setIfInBounds_toArray, List.set_cons_zero, List.set_cons_succ] at h3 h4 h5
  refine bodyPost_ret (v := .tuple #[noMat, .int .i64 50]) ?_ rfl ?_
  · rw [results_cell_tmp rfl]
    go_simp
  · exact ⟨rfl, below_alloc w _⟩
abbrev ibox3 (b : Nat) (k : Int) (w : World) : World := ((w.alloc (.cells #[fp b] 27)).alloc (.cells #[.int .i64 k] 3)).alloc (.cells #[.int .i64 0, .int .i64 0, .slice none 0 0] 24)
theorem ibox_blk (b : Nat) (k : Int) (w : World) : Blk (ibox3 b k w) (w.heap.size + 2) 24 #[.int .i64 0, .int .i64 0, .slice none 0 0] := by
  have := Blk.new ((w.alloc (.cells #[fp b] 27)).alloc (.cells #[.int .i64 k] 3)) #[.int .i64 0, .int .i64 0, .slice none 0 0] 24
  rw [size_alloc, size_alloc] at this
  exact this
theorem ibox_bel (b : Nat) (k : Int) (w : World) : Below w.heap.size w (ibox3 b k w) :=
  (((below_alloc w _).alloc (by rw [size_alloc]; omega) _).alloc (by rw [size_alloc, size_alloc]; omega) _)
theorem ibox_size (b : Nat) (k : Int) (w : World) : (ibox3 b k w).heap.size = w.heap.size + 3 := by rw [size_alloc, size_alloc, size_alloc]
set_option maxRecDepth 100000 in
theorem cauchy_bad_Parity (b : Nat) (k m : Int) (hk : i64ok k) (hm : i64ok m) (hkm : ¬ okkm k m) (w : World) :
    Calls Try.prog 60 #[fp b, .int .i64 k, .int .i64 m] w fun e w' => e = .returned (.tuple #[noMat, .int .i64 50]) ∧ Below w.heap.size w w' := by
  have CK : Hid (∀ rows cols a1 a2 w, Calls Try.prog 46 #[fp b, .int .i64 k, .int .i64 m, .int .i64 rows, .int .i64 cols, .func (.func 63) #[] #[.pointer (some a1), .pointer (some a2)]] w fun e w' => e = .returned (.tuple #[noMat, .int .i64 50]) ∧ Below w.heap.size w w') := fun rows cols a1 a2 w => made_bad_Parity b k m rows cols hk hm hkm a1 a2 w
  have HX := Lib.hid (ibox_blk b k w)
  have HXB := Lib.hid (ibox_bel b k w)
  clear hkm
  unfold i64ok at hk hm
  go_enter Try.func60, Try.ntmps60
  go_wp2_with (go_at_call 46; (with_reducible refine (CK.out _ _ _ _ _).mono ?_); rintro e w1 ⟨rfl, hb⟩; have hk1 := HX.out.below hb; have HK := Lib.hid hk1; have HB1 : Hid (Below w.heap.size w w1) := Below.trans HXB.out (Below.mono hb (by rw [ibox_size]; omega)); have g0 := hk1.frozen 0; have g1 := hk1.frozen 1; have g2 := hk1.frozen 2; have f0 := hk1.cell 0; have f1 := hk1.cell 1; have f2 := hk1.cell 2; simp only [List.getElem?_toArray, List.getElem?_cons_succ, List.getElem?_cons_zero] at f0 f1 f2; clear hk1 hb)
  have hfin := (((HK.out.set 0 (.int .i64 0)).set 1 (.int .i64 0)).set 2 (.slice none 0 0))
  have h3 := hfin.cell 0
  have h4 := hfin.cell 1
  have h5 := hfin.cell 2
  simp only [List.getElem?_toArray, List.getElem?_cons_succ, List.getElem?_cons_zero, List.setIfInBounds_toArray, List.set_cons_zero, List.set_cons_succ] at h3 h4 h5
  refine bodyPost_ret (v := .tuple #[noMat, .int .i64 50]) ?_ rfl ?_
  · rw [results_cell_tmp rfl]
    go_simp
  · have hle : w.heap.size ≤ w.heap.size + 2 := Nat.le_add_right _ _
    exact ⟨rfl, ((HB1.out.setCell hle _).setCell hle _).setCell hle _⟩
set_option maxRecDepth 100000 in
theorem cauchy_bad_Generator (b : Nat) (k m : Int) (hk : i64ok k) (hm : i64ok m) (hkm : ¬ okkm k m) (w : World) :
    Calls Try.prog 37 #[fp b, .int .i64 k, .int .i64 m] w fun e w' => e = .returned (.tuple #[noMat, .int .i64 50]) ∧ Below w.heap.size w w' := by
  have CK : Hid (∀ rows cols a1 a2 w, Calls Try.prog 46 #[fp b, .int .i64 k, .int .i64 m, .int .i64 rows, .int .i64 cols, .func (.func 47) #[] #[.pointer (some a1), .pointer (some a2)]] w fun e w' => e = .returned (.tuple #[noMat, .int .i64 50]) ∧ Below w.heap.size w w') := fun rows cols a1 a2 w => made_bad_Generator b k m rows cols hk hm hkm a1 a2 w
  have HX := Lib.hid (ibox_blk b k w)
  have HXB := Lib.hid (ibox_bel b k w)
  clear hkm
  unfold i64ok at hk hm
  go_enter Try.func37, Try.ntmps37
  go_wp2_with (go_at_call 46; (with_reducible refine (CK.out _ _ _ _ _).mono ?_); rintro e w1 ⟨rfl, hb⟩; have hk1 := HX.out.below hb; have HK := Lib.hid hk1; have HB1 : Hid (Below w.heap.size w w1) := Below.trans HXB.out (Below.mono hb (by rw [ibox_size]; omega)); have g0 := hk1.frozen 0; have g1 := hk1.frozen 1; have g2 := hk1.frozen 2; have f0 := hk1.cell 0; have f1 := hk1.cell 1; have f2 := hk1.cell 2; simp only [List.getElem?_toArray, List.getElem?_cons_succ, List.getElem?_cons_zero] at f0 f1 f2; clear hk1 hb)
  have hfin := (((HK.out.set 0 (.int .i64 0)).set 1 (.int .i64 0)).set 2 (.slice none 0 0))
  have h3 := hfin.cell 0
  have h4 := hfin.cell 1
  have h5 := hfin.cell 2
  simp only [List.getElem?_toArray, List.getElem?_cons_succ, List.getElem?_cons_zero, List.setIfInBounds_toArray, List.set_cons_zero, List.set_cons_succ] at h3 h4 h5
  refine bodyPost_ret (v := .tuple #[noMat, .int .i64 50]) ?_ rfl ?_
  · rw [results_cell_tmp rfl]
    go_simp
  · have hle : w.heap.size ≤ w.heap.size + 2 := Nat.le_add_right _ _
    exact ⟨rfl, ((HB1.out.setCell hle _).setCell hle _).setCell hle _⟩
set_option maxRecDepth 100000 in
theorem ref03_same_true (r c : Int) (A : Option Addr) (cA : Nat) (A2 : Option Addr) (c2 : Nat) (n : Nat) (l : List F) (hn : l.length = n) (w : World) (ha : Bs w A cA l) (ha2 : Bs w A2 c2 l) :
    Calls Try.prog 16 #[.agg #[.int .i64 r, .int .i64 c, .slice A n cA], .agg #[.int .i64 r, .int .i64 c, .slice A2 n c2]] w fun e w' => e = .returned (.bool true) ∧ Below w.heap.size w w' := by
  have hs : ∀ w, Bs w A cA l → Bs w A2 c2 l → Calls Try.prog 34 #[.slice A n cA, .slice A2 n c2] w fun e w' => e = .returned (.bool true) ∧ Below w.heap.size w w' := fun w h h2 => by
    have := same_true A cA l A2 c2 l w h h2 rfl
    rwa [hn] at this
  have HS := Lib.hid hs
  have HA := Lib.hid ((Sl.alloc ha (.cells #[.int .i64 r, .int .i64 c, .slice A n cA] 24)).alloc (.cells #[.int .i64 r, .int .i64 c, .slice A2 n c2] 24))
  have HA2 := Lib.hid ((Sl.alloc ha2 (.cells #[.int .i64 r, .int .i64 c, .slice A n cA] 24)).alloc (.cells #[.int .i64 r, .int .i64 c, .slice A2 n c2] 24))
  have hk1 := (Blk.new w #[.int .i64 r, .int .i64 c, .slice A n cA] 24).alloc (.cells #[.int .i64 r, .int .i64 c, .slice A2 n c2] 24)
  have hk2 := Blk.new (w.alloc (.cells #[.int .i64 r, .int .i64 c, .slice A n cA] 24)) #[.int .i64 r, .int .i64 c, .slice A2 n c2] 24
  rw [size_alloc] at hk2
  have K1 := Lib.hid hk1
  have K2 := Lib.hid hk2
  have a2 := hk1.cell 2
  have b2 := hk2.cell 2
  simp only [List.getElem?_toArray, List.getElem?_cons_succ, List.getElem?_cons_zero] at a2 b2
  clear hs hn ha ha2 hk1 hk2
  go_enter Try.func16, Try.ntmps16
  go_wp2_with (go_at_call 34; (with_reducible refine (HS.out _ HA.out HA2.out).mono ?_); rintro e w1 ⟨rfl, hb⟩; have x1 := (K1.out.below hb).cell 0; have x2 := (K1.out.below hb).cell 1; have y1 := (K2.out.below hb).cell 0; have y2 := (K2.out.below hb).cell 1; simp only [List.getElem?_toArray, List.getElem?_cons_succ, List.getElem?_cons_zero] at x1 x2 y1 y2; have HB : Hid (Below w.heap.size w w1) := Below.trans (Below.trans (below_alloc w _) (Below.mono (below_alloc _ _) (by rw [size_alloc]; omega))) (Below.mono hb (by rw [size_alloc, size_alloc]; omega)); clear hb)
  go_ret
  exact ⟨rfl, HB.out⟩
end Go.Proofs.Ytbepadepepoilaa
