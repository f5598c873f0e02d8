/- cauchy.Parity, Generator, Checks, walked. -/
import Derived.Test.YtbepadepepoilaaMade
namespace Go.Proofs.Ytbepadepepoilaa
open Go.RowKit
def parF (k : Nat) (r c : Nat) : F := cau (k + r) c
def chkF (k : Nat) (r c : Nat) : F := if c < k then cau (k + r) c else dlt (k + r) c
theorem cl_Parity (b k r c : Nat) (h1 : k + r < 256) (h2 : c < 256) (a1 a2 : Addr) (w : World) (hg : GfAt w b) (hf : w.cell? a1 = some (fp b)) (hk : w.cell? a2 = some (.int .i64 k)) :
    Calls Try.prog 63 #[.int .i64 r, .int .i64 c, .pointer (some a1), .pointer (some a2)] w fun e w' => e = .returned (.int .u8 (parF k r c).n) ∧ ∃ n, w' = w.drewN n := by
  have hb := cauchy_between b (k + r) c h1 h2 w hg
  rw [Int.natCast_add] at hb
  have HB := Lib.hid hb
  clear hb
  unfold parF
  go_enter Try.func63, Try.ntmps63
  go_wp2_with (go_at_call 49; (with_reducible refine HB.out.mono ?_); rintro e w1 ⟨rfl, n, rfl⟩)
  go_ret
  exact ⟨rfl, n, rfl⟩
theorem cl_Generator (b k r c : Nat) (h1 : r < 256) (h2 : c < 256) (a2 a1 : Addr) (w : World) (hg : GfAt w b) (hk : w.cell? a2 = some (.int .i64 k)) (hf : w.cell? a1 = some (fp b)) :
    Calls Try.prog 47 #[.int .i64 r, .int .i64 c, .pointer (some a2), .pointer (some a1)] w fun e w' => e = .returned (.int .u8 (genF k r c).n) ∧ ∃ n, w' = w.drewN n := by
  have HB := Lib.hid (cauchy_between b r c h1 h2 w hg)
  have HD := Lib.hid (cauchy_one r c w)
  unfold genF
  by_cases hr : r < k
  · rw [if_pos hr]
    go_enter Try.func47, Try.ntmps47
    go_wp2_with (go_at_call 48; (with_reducible refine HD.out.mono ?_); rintro e w1 ⟨rfl, rfl⟩)
    go_ret
    exact ⟨rfl, 0, rfl⟩
  · rw [if_neg hr]
    go_enter Try.func47, Try.ntmps47
    go_wp2_with (go_at_call 49; (with_reducible refine HB.out.mono ?_); rintro e w1 ⟨rfl, n, rfl⟩)
    go_ret
    exact ⟨rfl, n, rfl⟩
theorem size_alloc (w : World) (o : Obj) : (w.alloc o).heap.size = w.heap.size + 1 := by simp
abbrev box3 (b k : Nat) (w : World) : World := ((w.alloc (.cells #[fp b] 27)).alloc (.cells #[.int .i64 k] 3)).alloc (.cells #[.int .i64 0, .int .i64 0, .slice none 0 0] 24)
structure Boxed (b k : Nat) (w : World) (X : World) : Prop where
  size : X.heap.size = w.heap.size + 3
  cf : X.cell? ⟨w.heap.size, 0, none⟩ = some (fp b)
  ck : X.cell? ⟨w.heap.size + 1, 0, none⟩ = some (.int .i64 k)
  blk : Blk X (w.heap.size + 2) 24 #[.int .i64 0, .int .i64 0, .slice none 0 0]
  gf : GfAt X b
  bel : Below w.heap.size w X
theorem boxed (b k : Nat) (w : World) (hg : GfAt w b) : Boxed b k w (box3 b k w) := by
  refine ⟨by rw [size_alloc, size_alloc, size_alloc], ?_, ?_, ?_, ((hg.alloc _).alloc _).alloc _, (((below_alloc w _).alloc (by rw [size_alloc]; omega) _).alloc (by rw [size_alloc, size_alloc]; omega) _)⟩
  · exact (((Blk.new w #[fp b] 27).alloc (.cells #[.int .i64 k] 3)).alloc (.cells #[.int .i64 0, .int .i64 0, .slice none 0 0] 24)).cell 0
  · have := ((Blk.new (w.alloc (.cells #[fp b] 27)) #[.int .i64 k] 3).alloc (.cells #[.int .i64 0, .int .i64 0, .slice none 0 0] 24)).cell 0
    rw [size_alloc] at this
    exact this
  · have := Blk.new ((w.alloc (.cells #[fp b] 27)).alloc (.cells #[.int .i64 k] 3)) #[.int .i64 0, .int .i64 0, .slice none 0 0] 24
    rw [size_alloc, size_alloc] at this
    exact this
set_option maxRecDepth 100000 in
theorem cauchy_Parity (b k m : Nat) (hkm : okkm k m) (w : World) (hg : GfAt w b) :
    Calls Try.prog 60 #[fp b, .int .i64 k, .int .i64 m] w fun e w' => ∃ A' c', e = .returned (.tuple #[.agg #[.int .i64 (m : Int), .int .i64 (k : Int), .slice A' ((m) * (k)) c'], .int .i64 0]) ∧ w'.ownsRow w.heap.size 5 1 (.slice A' ((m) * (k)) c') ((m) * (k)) ((matL (m) (k) (parF k)).map bv) ∧ Below w.heap.size w w' := by
  obtain ⟨k1, k2, k3⟩ := hkm
  have HX := Lib.hid (boxed b k w hg)
  have hm := made_Parity b k m (m) (k) ⟨k1, k2, k3⟩ (by omega) (by omega) ⟨w.heap.size, 0, none⟩ ⟨w.heap.size + 1, 0, none⟩ (parF k) (box3 b k w) fun r c wr h1 h2 hb =>
    cl_Parity b k r c (by omega) (by omega) _ _ wr (HX.out.gf.below hb) ((hb.cell (p := ⟨w.heap.size, 0, none⟩) (by rw [HX.out.size]; exact Nat.lt_add_of_pos_right (by decide))).trans HX.out.cf) ((hb.cell (p := ⟨w.heap.size + 1, 0, none⟩) (by rw [HX.out.size]; exact Nat.add_lt_add_left (by decide) _)).trans HX.out.ck)
  (try simp only [Int.natCast_add] at hm)
  have HM := Lib.hid hm
  clear hm
  go_enter Try.func60, Try.ntmps60
  go_wp2_with (go_at_call 46; (with_reducible refine HM.out.mono ?_); rintro e w1 ⟨A1, c1, rfl, hbs, hb⟩; have HS := Lib.hid hbs; have hk1 := HX.out.blk.below hb; have HK := Lib.hid hk1; have HB1 : Hid (Below w.heap.size w w1) := Below.trans HX.out.bel (Below.mono hb (by rw [HX.out.size]; omega)); have g0 := hk1.frozen 0; have g1 := hk1.frozen 1; have g2 := hk1.frozen 2; have f0 := hk1.cell 0; have f1 := hk1.cell 1; have f2 := hk1.cell 2; simp only [List.getElem?_toArray, List.getElem?_cons_succ, List.getElem?_cons_zero] at f0 f1 f2; clear hbs hk1 hb)
  have hfin := (((HK.out.set 0 (.int .i64 (m : Int))).set 1 (.int .i64 (k : Int))).set 2 (.slice A1 ((m) * (k)) c1))
  have h3 := hfin.cell 0
  have h4 := hfin.cell 1
  have h5 := hfin.cell 2
  simp only [List.getElem?_toArray, List.getElem?_cons_succ, List.getElem?_cons_zero, List.setIfInBounds_toArray, List.set_cons_zero, List.set_cons_succ] at h3 h4 h5
  refine bodyPost_ret (v := .tuple #[.agg #[.int .i64 (m : Int), .int .i64 (k : Int), .slice A1 ((m) * (k)) c1], .int .i64 0]) ?_ rfl ?_
  · rw [results_cell_tmp rfl]
    go_simp
  · have hle : w.heap.size ≤ w.heap.size + 2 := Nat.le_add_right _ _
    refine ⟨A1, c1, rfl, ?_, ((HB1.out.setCell hle _).setCell hle _).setCell hle _⟩
    have NE := own_ne_blk HS.out HK.out (by decide)
    exact own_mono (ownsRow_setCell_other (ownsRow_setCell_other (ownsRow_setCell_other HS.out NE _) NE _) NE _) (by rw [HX.out.size]; omega)
set_option maxRecDepth 100000 in
theorem cauchy_Generator (b k m : Nat) (hkm : okkm k m) (w : World) (hg : GfAt w b) :
    Calls Try.prog 37 #[fp b, .int .i64 k, .int .i64 m] w fun e w' => ∃ A' c', e = .returned (.tuple #[.agg #[.int .i64 ((k : Int) + (m : Int)), .int .i64 (k : Int), .slice A' ((k + m) * (k)) c'], .int .i64 0]) ∧ w'.ownsRow w.heap.size 5 1 (.slice A' ((k + m) * (k)) c') ((k + m) * (k)) ((matL (k + m) (k) (genF k)).map bv) ∧ Below w.heap.size w w' := by
  obtain ⟨k1, k2, k3⟩ := hkm
  have HX := Lib.hid (boxed b k w hg)
  have hm := made_Generator b k m (k + m) (k) ⟨k1, k2, k3⟩ (by omega) (by omega) ⟨w.heap.size + 1, 0, none⟩ ⟨w.heap.size, 0, none⟩ (genF k) (box3 b k w) fun r c wr h1 h2 hb =>
    cl_Generator b k r c (by omega) (by omega) _ _ wr (HX.out.gf.below hb) ((hb.cell (p := ⟨w.heap.size + 1, 0, none⟩) (by rw [HX.out.size]; exact Nat.add_lt_add_left (by decide) _)).trans HX.out.ck) ((hb.cell (p := ⟨w.heap.size, 0, none⟩) (by rw [HX.out.size]; exact Nat.lt_add_of_pos_right (by decide))).trans HX.out.cf)
  (try simp only [Int.natCast_add] at hm)
  have HM := Lib.hid hm
  clear hm
  go_enter Try.func37, Try.ntmps37
  go_wp2_with (go_at_call 46; (with_reducible refine HM.out.mono ?_); rintro e w1 ⟨A1, c1, rfl, hbs, hb⟩; have HS := Lib.hid hbs; have hk1 := HX.out.blk.below hb; have HK := Lib.hid hk1; have HB1 : Hid (Below w.heap.size w w1) := Below.trans HX.out.bel (Below.mono hb (by rw [HX.out.size]; omega)); have g0 := hk1.frozen 0; have g1 := hk1.frozen 1; have g2 := hk1.frozen 2; have f0 := hk1.cell 0; have f1 := hk1.cell 1; have f2 := hk1.cell 2; simp only [List.getElem?_toArray, List.getElem?_cons_succ, List.getElem?_cons_zero] at f0 f1 f2; clear hbs hk1 hb)
  have hfin := (((HK.out.set 0 (.int .i64 ((k : Int) + (m : Int)))).set 1 (.int .i64 (k : Int))).set 2 (.slice A1 ((k + m) * (k)) c1))
  have h3 := hfin.cell 0
  have h4 := hfin.cell 1
  have h5 := hfin.cell 2
  simp only [List.getElem?_toArray, List.getElem?_cons_succ, List.getElem?_cons_zero, List.setIfInBounds_toArray, List.set_cons_zero, List.set_cons_succ] at h3 h4 h5
  refine bodyPost_ret (v := .tuple #[.agg #[.int .i64 ((k : Int) + (m : Int)), .int .i64 (k : Int), .slice A1 ((k + m) * (k)) c1], .int .i64 0]) ?_ rfl ?_
  · rw [results_cell_tmp rfl]
    go_simp
  · have hle : w.heap.size ≤ w.heap.size + 2 := Nat.le_add_right _ _
    refine ⟨A1, c1, rfl, ?_, ((HB1.out.setCell hle _).setCell hle _).setCell hle _⟩
    have NE := own_ne_blk HS.out HK.out (by decide)
    exact own_mono (ownsRow_setCell_other (ownsRow_setCell_other (ownsRow_setCell_other HS.out NE _) NE _) NE _) (by rw [HX.out.size]; omega)
end Go.Proofs.Ytbepadepepoilaa
