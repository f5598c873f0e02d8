/- keyeq.Solve, walked. -/
import Derived.Test.YtmcamamfpefffaaK8
import Derived.Deep.LoopGhost
import Derived.WalkMore
namespace Go.Proofs.Ytmcamamfpefffaa
open Go.RowKit
set_option linter.unusedVariables false
set_option linter.unusedSimpArgs false
def rowA (A : Option Addr) (c lo : Nat) : Option Addr := if c = lo then A else A.map (·.add lo)
theorem add_at (b o i : Nat) : (⟨b, o, none⟩ : Addr).add i = ⟨b, o + i, none⟩ := by
  unfold Addr.add; split
  · rename_i h; subst h; rfl
  · rfl
theorem Sl.row {w : World} {A : Option Addr} {c lo m : Nat} {xs : List Value} (h : Sl w A c xs) (hm : lo + m ≤ xs.length) : Sl w (rowA A c lo) (c - lo) ((xs.drop lo).take m) := by
  have hle := h.le
  have hmx := h.mx
  refine ⟨by rw [List.length_take, List.length_drop]; omega, by omega, ?_⟩
  by_cases e : c = lo
  · have : (xs.drop lo).take m = [] := by
      have : m = 0 := by omega
      rw [this]; rfl
    exact .inl this
  · rcases h.cells with h | ⟨b, o, hA, hl, hc⟩
    · exact .inl (by rw [h]; simp)
    · refine .inr ⟨b, o + lo, by rw [rowA, if_neg e, hA]; simp [add_at], hl, fun i v hv => ?_⟩
      rw [List.getElem?_take] at hv
      split at hv
      · rw [List.getElem?_drop] at hv
        rw [Nat.add_assoc]; exact hc _ v hv
      · cases hv
theorem Bs.dropA {w : World} {A : Option Addr} {c : Nat} {l : List F} (h : Bs w A c l) {k : Nat} (hk : k ≤ l.length) : Bs w (rowA A c k) (c - k) (l.drop k) := by
  have := Sl.row (lo := k) (m := l.length - k) h (by rw [List.length_map]; omega)
  rw [List.take_of_length_le (by simp), ← List.map_drop] at this
  exact this
/-- what is known while Solve begins: the field, the cell that points to it, the syndromes -/
structure Kz (w W : World) (fb q0 : Nat) (A : Option Addr) (c : Nat) (s : List F) : Prop where
  gf : GfAt W fb
  k0 : Blk W q0 24 #[fp fb]
  s : Bs W A c s
  bel : Below w.heap.size w W
theorem Kz.below {w W W' : World} {fb q0 : Nat} {A : Option Addr} {c : Nat} {s : List F} (h : Kz w W fb q0 A c s) (hb : Below W.heap.size W W') : Kz w W' fb q0 A c s :=
  ⟨h.gf.below hb, h.k0.below hb, Sl.below h.s hb, h.bel.trans (hb.mono h.bel.size)⟩
/-- behind the region that makes what Euclid's steps begin with -/
def Cut8 (w4 : World) (m : Nat) (H : List F) (x y : Value) (wx : World) : Prop :=
  ∃ (q1 q2 g : Nat) (Ah : Option Addr) (ch : Nat), x = .pointer (some ⟨q1, 0, none⟩) ∧ y = .pointer (some ⟨q2, 0, none⟩) ∧ q1 ≠ q2 ∧ w4.heap.size ≤ q1 ∧ w4.heap.size ≤ q2 ∧ Blk wx q1 23 #[.slice (some ⟨g, 0, none⟩) (m + 1) (m + 1)] ∧ Blk wx q2 23 #[.slice Ah H.length ch] ∧
    wx.ownsRow w4.heap.size 5 1 (.slice (some ⟨g, 0, none⟩) (m + 1) (m + 1)) (m + 1) ((List.replicate (m + 1) (0 : F)).map bv) ∧ Bs wx Ah ch H ∧ Below w4.heap.size w4 wx ∧ ∀ b o, H ≠ [] → Ah = some ⟨b, o, none⟩ → b ≠ g
theorem cut8 {w4 W : World} {m g qa qb : Nat} {A6 : Option Addr} {c6 : Nat} {H : List F} (hB : Below w4.heap.size w4 W) (hM : W.ownsRow w4.heap.size 5 1 (.slice (some ⟨g, 0, none⟩) (m + 1) (m + 1)) (m + 1) ((List.replicate (m + 1) (0 : F)).map bv)) (hC : Bs W A6 c6 H)
    (hA : Blk W qa 23 #[.slice none 0 0]) (hb : Blk W qb 23 #[.slice none 0 0]) (h1 : w4.heap.size ≤ qa) (h2 : w4.heap.size ≤ qb) (hne : qa ≠ qb) (hn : ∀ b o, H ≠ [] → A6 = some ⟨b, o, none⟩ → b ≠ g) :
    Cut8 w4 m H (.pointer (some ⟨qa, 0, none⟩)) (.pointer (some ⟨qb, 0, none⟩)) ((W.setCell ⟨qa, 0, none⟩ (.slice (some ⟨g, 0, none⟩) (m + 1) (m + 1))).setCell ⟨qb, 0, none⟩ (.slice A6 H.length c6)) := by
  have r0 : Blk W qa 23 #[rowV (none, 0, [])] := hA
  have r1 : Blk W qb 23 #[rowV (none, 0, [])] := hb
  have k1 : Blk (W.setCell ⟨qa, 0, none⟩ (.slice (some ⟨g, 0, none⟩) (m + 1) (m + 1))) qb 23 #[rowV (none, 0, [])] := r1.apart hne.symm _
  refine ⟨qa, qb, g, A6, c6, rfl, rfl, hne, h1, h2, (hA.put0 _).apart hne _, k1.put0 _, ownsRow_setCell_other (ownsRow_setCell_other hM (own_ne_blk hM hA (by decide)) _) ?_ _, (hC.apart r0 _).apart k1 _, (hB.setCell h1 _).setCell h2 _, hn⟩
  exact own_ne_blk hM hb (by decide)
theorem Ke.init {w4 wx : World} {fb q0 q1 q2 g m : Nat} {Ah : Option Addr} {ch : Nat} {H : List F} (hg : GfAt w4 fb) (k0 : Blk w4 q0 24 #[fp fb]) (hne : q1 ≠ q2) (h1 : w4.heap.size ≤ q1) (h2 : w4.heap.size ≤ q2) (b1 : Blk wx q1 23 #[.slice (some ⟨g, 0, none⟩) (m + 1) (m + 1)]) (b2 : Blk wx q2 23 #[.slice Ah H.length ch])
    (ho : wx.ownsRow w4.heap.size 5 1 (.slice (some ⟨g, 0, none⟩) (m + 1) (m + 1)) (m + 1) ((List.replicate (m + 1) (0 : F)).map bv)) (hH : Bs wx Ah ch H) (hb : Below w4.heap.size w4 wx) (hn : ∀ b o, H ≠ [] → Ah = some ⟨b, o, none⟩ → b ≠ g) :
    Ke w4 ((((wx.setCell ⟨g, m, none⟩ (.int .u8 1)).alloc (.cells #[.int .u8 1] 5)).alloc (.cells #[.slice none 0 0] 23)).alloc (.cells #[.slice (some ⟨wx.heap.size, 0, none⟩) 1 1] 23)) fb q0 q1 q2 (wx.heap.size + 2) (wx.heap.size + 1) (some ⟨g, 0, none⟩, m + 1, xpow m) (Ah, ch, H) (some ⟨wx.heap.size, 0, none⟩, 1, [1]) (none, 0, []) := by
  have hgw := own_some ho
  have hst := (ho.stored m (bv 1)).1
  have e0 : ((List.replicate (m + 1) (0 : F)).map bv).set m (bv 1) = (xpow m).map bv := by
    rw [map_set]
    congr 1
    refine ext_getD (by simp [length_xpow]) fun i hi => ?_
    simp only [List.length_set, List.length_replicate] at hi
    by_cases e : m = i
    · subst e
      rw [getD_set_eq _ _ _ (by simp)]
      unfold xpow
      rw [List.getD_eq_getElem?_getD, List.getElem?_append_right (by simp)]; simp
    · rw [getD_set_ne _ _ _ _ e]
      unfold xpow
      rw [List.getD_eq_getElem?_getD, List.getD_eq_getElem?_getD, List.getElem?_append_left (by simp; omega), List.getElem?_replicate, List.getElem?_replicate, if_pos (by omega), if_pos (by omega)]
  rw [e0] at hst
  have hbe := (Beside.refl g wx).setCell m (bv 1)
  have hbe' : Below w4.heap.size w4 (wx.setCell ⟨g, m, none⟩ (bv 1)) := hb.setCell hgw.1 _
  have n1 : q1 ≠ g := fun e => own_ne_blk ho b1 (by decide) (by rw [e]; rfl)
  have n2 : q2 ≠ g := fun e => own_ne_blk ho b2 (by decide) (by rw [e]; rfl)
  have hHg : Bs (wx.setCell ⟨g, m, none⟩ (bv 1)) Ah ch H := by
    by_cases h0 : H = []
    · subst h0
      exact ⟨hH.le, hH.mx, .inl rfl⟩
    · exact Sl.beside hH hbe fun b o hA => hn b o h0 hA
  have hsz : (wx.setCell ⟨g, m, none⟩ (bv 1)).heap.size = wx.heap.size := by simp [World.setCell]
  have l1 := b1.lt
  have l2 := b2.lt
  obtain ⟨X, hX⟩ : ∃ X, wx.setCell ⟨g, m, none⟩ (bv 1) = X := ⟨_, rfl⟩
  have d1 : Blk X q1 23 #[.slice (some ⟨g, 0, none⟩) (m + 1) (m + 1)] := by rw [← hX]; exact b1.other n1 _
  have d2 : Blk X q2 23 #[.slice Ah H.length ch] := by rw [← hX]; exact b2.other n2 _
  rw [hX] at hst hHg hbe' hsz
  have hbs := hb.size
  have e1 : (X.alloc (.cells #[.int .u8 1] 5)).heap.size = wx.heap.size + 1 := by rw [size_alloc', hsz]
  have e2 : ((X.alloc (.cells #[.int .u8 1] 5)).alloc (.cells #[.slice none 0 0] 23)).heap.size = wx.heap.size + 2 := by rw [size_alloc', e1]
  have t3 : Bs (X.alloc (.cells #[.int .u8 1] 5)) (some ⟨wx.heap.size, 0, none⟩) 1 [1] := lit_bs hsz.symm rfl rfl (by decide)
  have k4 := Blk.new (X.alloc (.cells #[.int .u8 1] 5)) #[.slice none 0 0] 23
  rw [e1] at k4
  have k3 := Blk.new ((X.alloc (.cells #[.int .u8 1] 5)).alloc (.cells #[.slice none 0 0] 23)) #[.slice (some ⟨wx.heap.size, 0, none⟩) 1 1] 23
  rw [e2] at k3
  have hbY : Below w4.heap.size w4 (((X.alloc (.cells #[.int .u8 1] 5)).alloc (.cells #[.slice none 0 0] 23)).alloc (.cells #[.slice (some ⟨wx.heap.size, 0, none⟩) 1 1] 23)) :=
    ((hbe'.alloc hbe'.size _).alloc (by rw [e1]; omega) _).alloc (by rw [e2]; omega) _
  have key : Ke w4 (((X.alloc (.cells #[.int .u8 1] 5)).alloc (.cells #[.slice none 0 0] 23)).alloc (.cells #[.slice (some ⟨wx.heap.size, 0, none⟩) 1 1] 23)) fb q0 q1 q2 (wx.heap.size + 2) (wx.heap.size + 1) (some ⟨g, 0, none⟩, m + 1, xpow m) (Ah, ch, H) (some ⟨wx.heap.size, 0, none⟩, 1, [1]) (none, 0, []) := by
    refine ⟨hg.below hbY, k0.below hbY, ?_, ((d2.alloc _).alloc _).alloc _, k3, k4.alloc _, ?_, Sl.alloc (Sl.alloc (Sl.alloc hHg _) _) _, Sl.alloc (Sl.alloc t3 _) _, Bs.nil _, hbY, ⟨h1, h2, by omega, by omega⟩, ⟨⟨hne, by omega, by omega⟩, ⟨by omega, by omega⟩, by omega⟩⟩
    · have := ((d1.alloc (.cells #[.int .u8 1] 5)).alloc (.cells #[.slice none 0 0] 23)).alloc (.cells #[.slice (some ⟨wx.heap.size, 0, none⟩) 1 1] 23)
      unfold rowV
      simp only [length_xpow]
      exact this
    · exact Sl.alloc (Sl.alloc (Sl.alloc (own_sl hst) _) _) _
  rw [← hX] at key
  exact key
set_option maxRecDepth 1000000 in
set_option maxHeartbeats 40000000 in
theorem key_solve (fb : Nat) (A : Option Addr) (c : Nat) (s : List F) (A2 : Option Addr) (c2 : Nat) (known : List F) (w : World) (hg : GfAt w fb) (ha : Bs w A c s) (ha2 : Bs w A2 c2 known) (hs : s.length ≤ 500) (hk : known.length ≤ 100000) :
    Calls Try.prog 12 #[fp fb, .slice A s.length c, .slice A2 known.length c2] w (KeyR w s known) := by
  have NM : Hid (∀ w', Bs w' A2 c2 known → Calls Try.prog 17 #[.slice A2 known.length c2] w' fun ed w'' => ∃ A' c', ed = .returned (.slice A' (norm known).length c') ∧ Bs w'' A' c' (norm known) ∧ Below w'.heap.size w' w'') := fun w' h =>
    (poly_norm A2 c2 known w' h (by omega)).mono fun ed w'' ⟨A', c', he, hm⟩ => ⟨A', c', he, hm.bs, hm.bel⟩
  have gl_le := length_norm_le known
  have K0 : Hid (Kz w (w.alloc (.cells #[.pointer (some ⟨fb, 0, none⟩)] 24)) fb w.heap.size A c s) := ⟨hg.alloc _, Blk.new w #[.pointer (some ⟨fb, 0, none⟩)] 24, Sl.alloc ha _, below_alloc _ _⟩
  have H2 : Hid (Bs (w.alloc (.cells #[.pointer (some ⟨fb, 0, none⟩)] 24)) A2 c2 known) := Sl.alloc ha2 _
  by_cases hbad : (norm known).length = 0 ∨ s.length + 1 < (norm known).length
  · have BAD : Hid (∀ ed w', Below w.heap.size w w' → ed = .returned (.tuple #[.slice none 0 0, .slice none 0 0, .int .i64 1]) → KeyR w s known ed w') := fun ed w' hb he => KeyR.bad hb hbad he
    unfold fp
    clear ha ha2 hg
    generalize (norm known).length = gl at *
    generalize norm known = g at *
    generalize hm : s.length = m at *
    clear hm
    generalize hkl : known.length = kl at *
    clear hkl
    rcases hbad with rfl | hbad
    · have e0 : ((0 : Nat) : Int) - 1 = -1 := rfl
      go_enter Try.func12, Try.ntmps12
      go_wp2
      go_step3
      go_wp2_with (go_at_call 17; (with_reducible refine (NM.out _ H2.out).mono ?_); rintro ed w1 ⟨A3, c3, rfl, hb3, hbel⟩; have K1 := Lib.hid (K0.out.below hbel); have y0 := K1.out.k0.cell 0; unfold fp at y0; simp only [List.getElem?_toArray, List.getElem?_cons_zero] at y0; clear hb3 hbel)
      go_ret3
      exact BAD.out _ _ K1.out.bel rfl
    · obtain ⟨e, rfl⟩ : ∃ e, gl = e + 1 := ⟨gl - 1, by omega⟩
      have e0 : ((e + 1 : Nat) : Int) - 1 = (e : Int) := by omega
      have e1 : ¬ (e : Int) < 0 := by omega
      have e2 : (m : Int) < (e : Int) := by omega
      have e3 : decide (m < e) = true := decide_eq_true (by omega)
      go_enter Try.func12, Try.ntmps12
      go_wp2
      go_step3
      go_wp2_with (go_at_call 17; (with_reducible refine (NM.out _ H2.out).mono ?_); rintro ed w1 ⟨A3, c3, rfl, hb3, hbel⟩; have K1 := Lib.hid (K0.out.below hbel); have y0 := K1.out.k0.cell 0; unfold fp at y0; simp only [List.getElem?_toArray, List.getElem?_cons_zero] at y0; clear hb3 hbel)
      go_ret3
      exact BAD.out _ _ K1.out.bel rfl
  · obtain ⟨e, he⟩ : ∃ e, (norm known).length = e + 1 := ⟨(norm known).length - 1, by omega⟩
    have hem : e ≤ s.length := by omega
    have MANY : Hid (∀ ed w', Below w.heap.size w w' → KeyMany (keyP s known) s.length e → ed = .returned (.tuple #[.slice none 0 0, .slice none 0 0, .int .i64 100]) → KeyR w s known ed w') := fun ed w' hb hk hed => KeyR.many hb he hem hk hed
    have OK : Hid (∀ (l o : List F) (A1 : Option Addr) (c1 : Nat) (A2 : Option Addr) (c2 : Nat) (w' : World), Below w.heap.size w w' → Bs w' A1 c1 l → Bs w' A2 c2 o → KeyOk (keyP s known) s.length e l o → KeyR w s known (.returned (.tuple #[.slice A1 l.length c1, .slice A2 o.length c2, .int .i64 0])) w') := fun l o A1 c1 A2 c2 w' hb h3 h4 h5 => ⟨hb, l, o, 0, A1, c1, A2, c2, rfl, h3, h4, .inr ⟨e, he, hem, .inl ⟨rfl, h5⟩⟩⟩
    have pl_le : (keyP s known).length ≤ 1002 := by have := length_keyP s known; omega
    have PM : Hid (∀ A3 c3 A4 c4 w', GfAt w' fb → Bs w' A3 c3 (norm known) → Bs w' A4 c4 s.reverse → Calls Try.prog 18 #[fp fb, .slice A3 (e + 1 : Nat) c3, .slice A4 s.length c4] w' fun ed w'' => ∃ A' c', ed = .returned (.slice A' (keyP s known).length c') ∧ Bs w'' A' c' (keyP s known) ∧ Below w'.heap.size w' w'') := fun A3 c3 A4 c4 w' hg h1 h2 => by
      have := poly_mul fb A3 c3 (norm known) A4 c4 s.reverse w' hg h1 h2 (by omega) (by simp; omega)
      rw [he, List.length_reverse] at this
      exact this.mono fun ed w'' ⟨A', c', h, hm⟩ => ⟨A', c', h, hm.bs, hm.bel⟩
    have CL : Hid (∀ w', Bs w' A c s → Calls Try.prog 26 #[.slice A s.length c] w' fun ed w'' => ∃ A' c', ed = .returned (.slice A' s.length c') ∧ w''.ownsRow w'.heap.size 5 1 (.slice A' s.length c') s.length (s.map bv) ∧ Below w'.heap.size w' w'') := fun w' h => clone_bytes A s.length c s w' h rfl (by omega)
    have RV : Hid (∀ B A4 c4 w', w'.ownsRow B 5 1 (.slice A4 s.length c4) s.length (s.map bv) → Calls Try.prog 27 #[.slice A4 s.length c4] w' fun ed w'' => ed = .returned (.tuple #[]) ∧ w''.ownsRow B 5 1 (.slice A4 s.length c4) s.length (s.reverse.map bv) ∧ Below B w' w'') := fun B A4 c4 w' h => reverse_bytes B A4 s.length c4 s w' h rfl (by omega)
    have NPP : norm (keyP s known) = keyP s known := norm_norm _
    have HE := Lib.hid he
    rw [he] at NM gl_le
    have HP0 : Hid (keyP s known = keyP s known) := rfl
    clear ha ha2 hg hbad he
    generalize s.reverse = sr at *
    generalize norm known = g at *
    generalize hp : keyP s known = p at *
    clear hp
    have HNP := Lib.hid NPP
    clear NPP
    generalize hm : s.length = m at *
    clear hm
    generalize hkl : known.length = kl at *
    clear hkl
    have e0 : ((e + 1 : Nat) : Int) - 1 = (e : Int) := by omega
    have e1 : ¬ (e : Int) < 0 := by omega
    have e2 : ¬ (m : Int) < (e : Int) := by omega
    have e3 : decide (m < e) = false := decide_eq_false (by omega)
    unfold fp at PM ⊢
    go_enter Try.func12, Try.ntmps12
    go_wp2
    go_step3
    go_upto_region 8 with (first
      | (go_at_call 17; (with_reducible refine (NM.out _ H2.out).mono ?_); rintro ed w1 ⟨A3, c3, rfl, hb3, hbel⟩; have K1 := Lib.hid (K0.out.below hbel); have HB1 := Lib.hid hb3; have y0 := K1.out.k0.cell 0; unfold fp at y0; simp only [List.getElem?_toArray, List.getElem?_cons_zero] at y0; clear hb3 hbel)
      | (go_at_call 26; (with_reducible refine (CL.out _ K1.out.s).mono ?_); rintro ed w2 ⟨A4, c4, rfl, hown, hbel⟩; have HO2 := Lib.hid hown; have HB2 := Lib.hid hbel; clear hown hbel)
      | (go_at_call 27; (with_reducible refine (RV.out _ _ _ _ HO2.out).mono ?_); rintro ed w3 ⟨rfl, hown, hbel⟩; have HO3 := Lib.hid hown; have HB3 := Lib.hid (HB2.out.trans hbel); have K3 := Lib.hid (K1.out.below HB3.out); clear y0; have y0 := K3.out.k0.cell 0; unfold fp at y0; simp only [List.getElem?_toArray, List.getElem?_cons_zero] at y0; clear hown hbel)
      | (go_at_call 18; (with_reducible refine (PM.out _ _ _ _ _ K3.out.gf (HB1.out.below HB3.out) (own_sl HO3.out)).mono ?_); rintro ed w4 ⟨A5, c5, rfl, hb5, hbel⟩; have HP := Lib.hid hb5; have K4 := Lib.hid (K3.out.below hbel); clear y0; clear hb5 hbel))
    clear K0 K1 K3 HB1 HO2 HB2 HO3 HB3 H2 NM PM CL RV
    have PN : Hid (∀ n A5 c5 w', Bs w' A5 c5 p → n ≤ p.length → Calls Try.prog 17 #[.slice A5 n c5] w' fun ed w'' => ∃ A' c', ed = .returned (.slice A' (norm (p.take n)).length c') ∧ w''.ownsRow w'.heap.size 5 1 (.slice A' (norm (p.take n)).length c') (norm (p.take n)).length ((norm (p.take n)).map bv) ∧ Below w'.heap.size w' w'') := fun n A5 c5 w' h hn => by
      have := poly_norm A5 c5 (p.take n) w' (h.take n) (by rw [List.length_take]; have := Nat.min_le_right n p.length; omega)
      rw [List.length_take, Nat.min_eq_left hn] at this
      exact this.mono fun ed w'' ⟨A', c', he, hm⟩ => ⟨A', c', he, hm.own, hm.bel⟩
    have hpc := HP.out.len
    have TK : Hid (p.take (min p.length m) = p.take m) := by
      show _ = _
      rcases Nat.le_total p.length m with h | h
      · rw [Nat.min_eq_left h, List.take_of_length_le (Nat.le_refl _), List.take_of_length_le h]
      · rw [Nat.min_eq_right h]
    go_cut [14, 15] from 49 to 58 (fun x y wx => Cut8 w4 m (norm (p.take m)) x y wx)
    case first =>
      obtain ⟨pm, hpm⟩ : ∃ pm, pm = min p.length m := ⟨_, rfl⟩
      have NMH : Hid (∀ w', Below w4.heap.size w4 w' → Calls Try.prog 17 #[.slice A5 pm c5] w' fun ed w'' => ∃ A' c', ed = .returned (.slice A' (norm (p.take m)).length c') ∧ (w''.ownsRow w'.heap.size 5 1 (.slice A' (norm (p.take m)).length c') (norm (p.take m)).length ((norm (p.take m)).map bv) ∧ Below w'.heap.size w' w'')) := fun w' hb => by
        have := PN.out pm A5 c5 w' (HP.out.below hb) (by omega)
        rw [hpm, TK.out] at this
        rw [hpm]
        exact this
      have hpm1 : (if m < p.length then (m : Int) else (p.length : Int)) = (pm : Int) := by
        rcases Nat.lt_or_ge m p.length with h | h
        · rw [if_pos h]; omega
        · rw [if_neg (by omega)]; omega
      have hpm2 : (pm : Int) ≤ (c5 : Int) := by omega
      have hpm3 : pm ≤ c5 := by omega
      have hwm : IntKind.i64.wrap ((m : Int) + 1) = (m : Int) + 1 := by rw [IntKind.wrap_i64]; omega
      have HM1 : Hid ((m : Int) + 1 = ((m + 1 : Nat) : Int)) := by show _ = _; omega
      have HB : Hid (Below w4.heap.size w4 w4.drew) := below_drew0 w4 1
      clear hpm TK
      generalize p.length = pl at *
      refine wp_region_any (by kernel_rfl) ?_
      change wpAny _ _ _ _ _ _ _ (World.drew _)
      refine' wpAny_take (i := 0) (oi := ⟨some 49, _, _, _, _, _⟩) (v := _) rfl (by kernel_rfl) (by kernel_rfl) (by kernel_rfl) (fun _ _ _ h => h) (Or.inl ⟨by rfl, ?_⟩) ?_
      rotate_left
      · intro w
        go_simp
        all_goals with_reducible rfl
      simp only [Act.put, List.setIfInBounds_toArray, List.set_cons_zero, List.set_cons_succ]
      refine' wpAny_take (i := 1) (oi := ⟨some 50, _, _, _, _, _⟩) (v := _) rfl (by kernel_rfl) (by kernel_rfl) (by kernel_rfl) (fun _ _ _ h => h) (Or.inl ⟨by rfl, ?_⟩) ?_
      rotate_left
      · intro w
        go_simp
        all_goals with_reducible rfl
      simp only [Act.put, List.setIfInBounds_toArray, List.set_cons_zero, List.set_cons_succ]
      refine' wpAny_take (i := 3) (oi := ⟨some 52, _, _, _, _, _⟩) (v := _) rfl (by kernel_rfl) (by kernel_rfl) (by kernel_rfl) (fun _ _ _ h => h) (Or.inl ⟨by rfl, ?_⟩) ?_
      rotate_left
      · intro w
        go_simp
        all_goals with_reducible rfl
      simp only [Act.put, List.setIfInBounds_toArray, List.set_cons_zero, List.set_cons_succ]
      refine' wpAny_take (i := 4) (oi := ⟨some 53, _, _, _, _, _⟩) (v := _) rfl (by kernel_rfl) (by kernel_rfl) (by kernel_rfl) (fun _ _ _ h => h) (Or.inl ⟨by rfl, ?_⟩) ?_
      rotate_left
      · intro w
        go_simp
        all_goals with_reducible rfl
      simp only [Act.put, List.setIfInBounds_toArray, List.set_cons_zero, List.set_cons_succ]
      refine' wpAny_take (i := 5) (oi := ⟨some 54, _, _, _, _, _⟩) (v := _) rfl (by kernel_rfl) (by kernel_rfl) (by kernel_rfl) (fun _ _ _ h => h) (Or.inl ⟨by rfl, ?_⟩) ?_
      rotate_left
      · intro w
        go_simp
        all_goals with_reducible rfl
      simp only [Act.put, List.setIfInBounds_toArray, List.set_cons_zero, List.set_cons_succ]
      refine' wpAny_take (i := 6) (oi := ⟨some 55, _, _, _, _, _⟩) (v := _) rfl (by kernel_rfl) (by kernel_rfl) (by kernel_rfl) (fun _ _ _ h => h) (Or.inl ⟨by rfl, ?_⟩) ?_
      rotate_left
      · intro w
        go_simp
        all_goals with_reducible rfl
      simp only [Act.put, List.setIfInBounds_toArray, List.set_cons_zero, List.set_cons_succ]
      refine' wpAny_take (i := 7) (oi := ⟨some 56, _, _, _, _, _⟩) (v := _) rfl (by kernel_rfl) (by kernel_rfl) (by kernel_rfl) (fun _ _ _ h => h) (Or.inl ⟨by rfl, ?_⟩) ?_
      rotate_left
      · intro w
        go_simp
        all_goals with_reducible rfl
      simp only [Act.put, List.setIfInBounds_toArray, List.set_cons_zero, List.set_cons_succ]
      refine' wpAny_take (i := 8) (oi := ⟨some 57, _, _, _, _, _⟩) (v := _) rfl (by kernel_rfl) (by kernel_rfl) (by kernel_rfl) (fun _ _ _ h => h) (Or.inl ⟨by rfl, ?_⟩) ?_
      rotate_left
      · intro w
        go_simp
        all_goals with_reducible rfl
      simp only [Act.put, List.setIfInBounds_toArray, List.set_cons_zero, List.set_cons_succ]
      refine wpAny_ready (rs := [2, 9, 10, 11]) (by kernel_rfl) (by simp) ?_
      refine AllReady.cons (i := 2) (o := ⟨some 51, _, _, _, _, _⟩) rfl (fun K hK => ?_) (AllReady.cons (i := 9) (o := ⟨some 58, _, _, _, _, _⟩) rfl (fun K hK => ?_) (AllReady.cons (i := 10) (o := ⟨some 14, _, _, _, _, _⟩) rfl (fun K hK => ?_) (AllReady.cons (i := 11) (o := ⟨some 15, _, _, _, _, _⟩) rfl (fun K hK => ?_) (AllReady.nil))))
      · refine step_make9 rfl _ _ rfl .i64 .i64 ((m : Int) + 1) ((m : Int) + 1) (m + 1) w4.heap.size rfl rfl HM1.out HM1.out (by omega) HB.out.size ?_
        intro g wd0 hg9 hown hbel
        refine hK _ _ ?_
        clear hK K
        simp only [Act.put, List.setIfInBounds_toArray, List.set_cons_zero, List.set_cons_succ]
        replace HB := Lib.hid (HB.out.trans (hbel.mono HB.out.size))
        have HMK := Lib.hid hown
        clear hown hbel hg9
        refine wpAny_ready (rs := [9, 10, 11]) (by kernel_rfl) (by simp) ?_
        refine AllReady.cons (i := 9) (o := ⟨some 58, _, _, _, _, _⟩) rfl (fun K hK => ?_) (AllReady.cons (i := 10) (o := ⟨some 14, _, _, _, _, _⟩) rfl (fun K hK => ?_) (AllReady.cons (i := 11) (o := ⟨some 15, _, _, _, _, _⟩) rfl (fun K hK => ?_) (AllReady.nil)))
        · refine step_norm9 rfl _ _ (norm (p.take m)).length (fun A0 c0 w0 => w0.ownsRow wd0.heap.size 5 1 (.slice A0 (norm (p.take m)).length c0) (norm (p.take m)).length ((norm (p.take m)).map bv) ∧ Below wd0.heap.size wd0 w0) rfl rfl (NMH.out _ HB.out) ?_
          intro A6 c6 wd1 hres
          obtain ⟨hown6, hbel⟩ := hres
          have HNE : Hid (∀ b o, norm (p.take m) ≠ [] → A6 = some ⟨b, o, none⟩ → b ≠ g) := fun b o hne hA => by
            obtain ⟨g6, hA6, hge, _⟩ := own_addr hown6 (List.length_pos_iff.2 hne)
            have := (own_some HMK.out).2
            rw [hA] at hA6
            injection hA6 with e1
            injection e1 with e1 _
            omega
          refine hK _ _ ?_
          clear hK K
          simp only [Act.put, List.setIfInBounds_toArray, List.set_cons_zero, List.set_cons_succ]
          replace HB := Lib.hid (HB.out.trans (hbel.mono HB.out.size))
          replace HMK := Lib.hid (own_below HMK.out hbel)
          have HCN := Lib.hid (own_sl hown6)
          clear hown6 hbel
          refine wpAny_ready (rs := [10, 11]) (by kernel_rfl) (by simp) ?_
          refine AllReady.cons (i := 10) (o := ⟨some 14, _, _, _, _, _⟩) rfl (fun K hK => ?_) (AllReady.cons (i := 11) (o := ⟨some 15, _, _, _, _, _⟩) rfl (fun K hK => ?_) (AllReady.nil))
          · refine step_alloc9 rfl rfl w4.heap.size HB.out.size ?_
            intro qa wd2 hqa hqa2 hblk hbel
            refine hK _ _ ?_
            clear hK K
            simp only [Act.put, List.setIfInBounds_toArray, List.set_cons_zero, List.set_cons_succ]
            replace HB := Lib.hid (HB.out.trans (hbel.mono HB.out.size))
            replace HMK := Lib.hid (own_below HMK.out hbel)
            replace HCN := Lib.hid (Sl.below HCN.out hbel)
            have HAA := Lib.hid hblk
            clear hblk hbel hqa2
            refine wpAny_ready (rs := [11]) (by kernel_rfl) (by simp) ?_
            refine AllReady.cons (i := 11) (o := ⟨some 15, _, _, _, _, _⟩) rfl (fun K hK => ?_) (AllReady.nil)
            · refine step_alloc9 rfl rfl w4.heap.size HB.out.size ?_
              intro qb wd3 hqb hqb2 hblk hbel
              have hab : qa ≠ qb := by have := HAA.out.lt; omega
              refine hK _ _ ?_
              clear hK K
              simp only [Act.put, List.setIfInBounds_toArray, List.set_cons_zero, List.set_cons_succ]
              replace HB := Lib.hid (HB.out.trans (hbel.mono HB.out.size))
              replace HMK := Lib.hid (own_below HMK.out hbel)
              replace HCN := Lib.hid (Sl.below HCN.out hbel)
              replace HAA := Lib.hid (HAA.out.below hbel)
              have HBB := Lib.hid hblk
              clear hblk hbel hqb2
              have y1 := HAA.out.cell 0
              have y2 := HBB.out.cell 0
              have z1 := HAA.out.frozen 0
              have z2 := HBB.out.frozen 0
              simp only [List.getElem?_toArray, List.getElem?_cons_zero] at y1 y2
              have hba := hab.symm
              refine wpAny_ready (rs := [12]) (by kernel_rfl) (by simp) ?_
              refine AllReady.cons (i := 12) (o := ⟨none, _, _, _, _, _⟩) rfl (fun K hK => ?_) AllReady.nil
              go_simp
              refine hK _ _ ?_
              clear hK K
              try simp only [Act.put, List.setIfInBounds_toArray, List.set_cons_zero, List.set_cons_succ]
              refine wpAny_ready (rs := [13]) (by kernel_rfl) (by simp) ?_
              refine AllReady.cons (i := 13) (o := ⟨none, _, _, _, _, _⟩) rfl (fun K hK => ?_) AllReady.nil
              go_simp
              refine hK _ _ ?_
              clear hK K
              try simp only [Act.put, List.setIfInBounds_toArray, List.set_cons_zero, List.set_cons_succ]
              refine wpAny_done (by kernel_rfl) ?_ _
              go_wp2_with fail
              go_meet
              exact cut8 HB.out HMK.out HCN.out HAA.out HBB.out hqa hqb hab HNE.out
          · refine step_alloc9 rfl rfl w4.heap.size HB.out.size ?_
            intro qb wd2 hqb hqb2 hblk hbel
            refine hK _ _ ?_
            clear hK K
            simp only [Act.put, List.setIfInBounds_toArray, List.set_cons_zero, List.set_cons_succ]
            replace HB := Lib.hid (HB.out.trans (hbel.mono HB.out.size))
            replace HMK := Lib.hid (own_below HMK.out hbel)
            replace HCN := Lib.hid (Sl.below HCN.out hbel)
            have HBB := Lib.hid hblk
            clear hblk hbel hqb2
            refine wpAny_ready (rs := [10]) (by kernel_rfl) (by simp) ?_
            refine AllReady.cons (i := 10) (o := ⟨some 14, _, _, _, _, _⟩) rfl (fun K hK => ?_) (AllReady.nil)
            · refine step_alloc9 rfl rfl w4.heap.size HB.out.size ?_
              intro qa wd3 hqa hqa2 hblk hbel
              have hab : qa ≠ qb := by have := HBB.out.lt; omega
              refine hK _ _ ?_
              clear hK K
              simp only [Act.put, List.setIfInBounds_toArray, List.set_cons_zero, List.set_cons_succ]
              replace HB := Lib.hid (HB.out.trans (hbel.mono HB.out.size))
              replace HMK := Lib.hid (own_below HMK.out hbel)
              replace HCN := Lib.hid (Sl.below HCN.out hbel)
              replace HBB := Lib.hid (HBB.out.below hbel)
              have HAA := Lib.hid hblk
              clear hblk hbel hqa2
              have y1 := HAA.out.cell 0
              have y2 := HBB.out.cell 0
              have z1 := HAA.out.frozen 0
              have z2 := HBB.out.frozen 0
              simp only [List.getElem?_toArray, List.getElem?_cons_zero] at y1 y2
              have hba := hab.symm
              refine wpAny_ready (rs := [12]) (by kernel_rfl) (by simp) ?_
              refine AllReady.cons (i := 12) (o := ⟨none, _, _, _, _, _⟩) rfl (fun K hK => ?_) AllReady.nil
              go_simp
              refine hK _ _ ?_
              clear hK K
              try simp only [Act.put, List.setIfInBounds_toArray, List.set_cons_zero, List.set_cons_succ]
              refine wpAny_ready (rs := [13]) (by kernel_rfl) (by simp) ?_
              refine AllReady.cons (i := 13) (o := ⟨none, _, _, _, _, _⟩) rfl (fun K hK => ?_) AllReady.nil
              go_simp
              refine hK _ _ ?_
              clear hK K
              try simp only [Act.put, List.setIfInBounds_toArray, List.set_cons_zero, List.set_cons_succ]
              refine wpAny_done (by kernel_rfl) ?_ _
              go_wp2_with fail
              go_meet
              exact cut8 HB.out HMK.out HCN.out HAA.out HBB.out hqa hqb hab HNE.out
        · refine step_alloc9 rfl rfl w4.heap.size HB.out.size ?_
          intro qa wd1 hqa hqa2 hblk hbel
          refine hK _ _ ?_
          clear hK K
          simp only [Act.put, List.setIfInBounds_toArray, List.set_cons_zero, List.set_cons_succ]
          replace HB := Lib.hid (HB.out.trans (hbel.mono HB.out.size))
          replace HMK := Lib.hid (own_below HMK.out hbel)
          have HAA := Lib.hid hblk
          clear hblk hbel hqa2
          refine wpAny_ready (rs := [9, 11]) (by kernel_rfl) (by simp) ?_
          refine AllReady.cons (i := 9) (o := ⟨some 58, _, _, _, _, _⟩) rfl (fun K hK => ?_) (AllReady.cons (i := 11) (o := ⟨some 15, _, _, _, _, _⟩) rfl (fun K hK => ?_) (AllReady.nil))
          · refine step_norm9 rfl _ _ (norm (p.take m)).length (fun A0 c0 w0 => w0.ownsRow wd1.heap.size 5 1 (.slice A0 (norm (p.take m)).length c0) (norm (p.take m)).length ((norm (p.take m)).map bv) ∧ Below wd1.heap.size wd1 w0) rfl rfl (NMH.out _ HB.out) ?_
            intro A6 c6 wd2 hres
            obtain ⟨hown6, hbel⟩ := hres
            have HNE : Hid (∀ b o, norm (p.take m) ≠ [] → A6 = some ⟨b, o, none⟩ → b ≠ g) := fun b o hne hA => by
              obtain ⟨g6, hA6, hge, _⟩ := own_addr hown6 (List.length_pos_iff.2 hne)
              have := (own_some HMK.out).2
              rw [hA] at hA6
              injection hA6 with e1
              injection e1 with e1 _
              omega
            refine hK _ _ ?_
            clear hK K
            simp only [Act.put, List.setIfInBounds_toArray, List.set_cons_zero, List.set_cons_succ]
            replace HB := Lib.hid (HB.out.trans (hbel.mono HB.out.size))
            replace HMK := Lib.hid (own_below HMK.out hbel)
            replace HAA := Lib.hid (HAA.out.below hbel)
            have HCN := Lib.hid (own_sl hown6)
            clear hown6 hbel
            refine wpAny_ready (rs := [11]) (by kernel_rfl) (by simp) ?_
            refine AllReady.cons (i := 11) (o := ⟨some 15, _, _, _, _, _⟩) rfl (fun K hK => ?_) (AllReady.nil)
            · refine step_alloc9 rfl rfl w4.heap.size HB.out.size ?_
              intro qb wd3 hqb hqb2 hblk hbel
              have hab : qa ≠ qb := by have := HAA.out.lt; omega
              refine hK _ _ ?_
              clear hK K
              simp only [Act.put, List.setIfInBounds_toArray, List.set_cons_zero, List.set_cons_succ]
              replace HB := Lib.hid (HB.out.trans (hbel.mono HB.out.size))
              replace HMK := Lib.hid (own_below HMK.out hbel)
              replace HAA := Lib.hid (HAA.out.below hbel)
              replace HCN := Lib.hid (Sl.below HCN.out hbel)
              have HBB := Lib.hid hblk
              clear hblk hbel hqb2
              have y1 := HAA.out.cell 0
              have y2 := HBB.out.cell 0
              have z1 := HAA.out.frozen 0
              have z2 := HBB.out.frozen 0
              simp only [List.getElem?_toArray, List.getElem?_cons_zero] at y1 y2
              have hba := hab.symm
              refine wpAny_ready (rs := [12]) (by kernel_rfl) (by simp) ?_
              refine AllReady.cons (i := 12) (o := ⟨none, _, _, _, _, _⟩) rfl (fun K hK => ?_) AllReady.nil
              go_simp
              refine hK _ _ ?_
              clear hK K
              try simp only [Act.put, List.setIfInBounds_toArray, List.set_cons_zero, List.set_cons_succ]
              refine wpAny_ready (rs := [13]) (by kernel_rfl) (by simp) ?_
              refine AllReady.cons (i := 13) (o := ⟨none, _, _, _, _, _⟩) rfl (fun K hK => ?_) AllReady.nil
              go_simp
              refine hK _ _ ?_
              clear hK K
              try simp only [Act.put, List.setIfInBounds_toArray, List.set_cons_zero, List.set_cons_succ]
              refine wpAny_done (by kernel_rfl) ?_ _
              go_wp2_with fail
              go_meet
              exact cut8 HB.out HMK.out HCN.out HAA.out HBB.out hqa hqb hab HNE.out
          · refine step_alloc9 rfl rfl w4.heap.size HB.out.size ?_
            intro qb wd2 hqb hqb2 hblk hbel
            have hab : qa ≠ qb := by have := HAA.out.lt; omega
            refine hK _ _ ?_
            clear hK K
            simp only [Act.put, List.setIfInBounds_toArray, List.set_cons_zero, List.set_cons_succ]
            replace HB := Lib.hid (HB.out.trans (hbel.mono HB.out.size))
            replace HMK := Lib.hid (own_below HMK.out hbel)
            replace HAA := Lib.hid (HAA.out.below hbel)
            have HBB := Lib.hid hblk
            clear hblk hbel hqb2
            refine wpAny_ready (rs := [9]) (by kernel_rfl) (by simp) ?_
            refine AllReady.cons (i := 9) (o := ⟨some 58, _, _, _, _, _⟩) rfl (fun K hK => ?_) (AllReady.nil)
            · refine step_norm9 rfl _ _ (norm (p.take m)).length (fun A0 c0 w0 => w0.ownsRow wd2.heap.size 5 1 (.slice A0 (norm (p.take m)).length c0) (norm (p.take m)).length ((norm (p.take m)).map bv) ∧ Below wd2.heap.size wd2 w0) rfl rfl (NMH.out _ HB.out) ?_
              intro A6 c6 wd3 hres
              obtain ⟨hown6, hbel⟩ := hres
              have HNE : Hid (∀ b o, norm (p.take m) ≠ [] → A6 = some ⟨b, o, none⟩ → b ≠ g) := fun b o hne hA => by
                obtain ⟨g6, hA6, hge, _⟩ := own_addr hown6 (List.length_pos_iff.2 hne)
                have := (own_some HMK.out).2
                rw [hA] at hA6
                injection hA6 with e1
                injection e1 with e1 _
                omega
              refine hK _ _ ?_
              clear hK K
              simp only [Act.put, List.setIfInBounds_toArray, List.set_cons_zero, List.set_cons_succ]
              replace HB := Lib.hid (HB.out.trans (hbel.mono HB.out.size))
              replace HMK := Lib.hid (own_below HMK.out hbel)
              replace HAA := Lib.hid (HAA.out.below hbel)
              replace HBB := Lib.hid (HBB.out.below hbel)
              have HCN := Lib.hid (own_sl hown6)
              clear hown6 hbel
              have y1 := HAA.out.cell 0
              have y2 := HBB.out.cell 0
              have z1 := HAA.out.frozen 0
              have z2 := HBB.out.frozen 0
              simp only [List.getElem?_toArray, List.getElem?_cons_zero] at y1 y2
              have hba := hab.symm
              refine wpAny_ready (rs := [12]) (by kernel_rfl) (by simp) ?_
              refine AllReady.cons (i := 12) (o := ⟨none, _, _, _, _, _⟩) rfl (fun K hK => ?_) AllReady.nil
              go_simp
              refine hK _ _ ?_
              clear hK K
              try simp only [Act.put, List.setIfInBounds_toArray, List.set_cons_zero, List.set_cons_succ]
              refine wpAny_ready (rs := [13]) (by kernel_rfl) (by simp) ?_
              refine AllReady.cons (i := 13) (o := ⟨none, _, _, _, _, _⟩) rfl (fun K hK => ?_) AllReady.nil
              go_simp
              refine hK _ _ ?_
              clear hK K
              try simp only [Act.put, List.setIfInBounds_toArray, List.set_cons_zero, List.set_cons_succ]
              refine wpAny_done (by kernel_rfl) ?_ _
              go_wp2_with fail
              go_meet
              exact cut8 HB.out HMK.out HCN.out HAA.out HBB.out hqa hqb hab HNE.out
        · refine step_alloc9 rfl rfl w4.heap.size HB.out.size ?_
          intro qb wd1 hqb hqb2 hblk hbel
          refine hK _ _ ?_
          clear hK K
          simp only [Act.put, List.setIfInBounds_toArray, List.set_cons_zero, List.set_cons_succ]
          replace HB := Lib.hid (HB.out.trans (hbel.mono HB.out.size))
          replace HMK := Lib.hid (own_below HMK.out hbel)
          have HBB := Lib.hid hblk
          clear hblk hbel hqb2
          refine wpAny_ready (rs := [9, 10]) (by kernel_rfl) (by simp) ?_
          refine AllReady.cons (i := 9) (o := ⟨some 58, _, _, _, _, _⟩) rfl (fun K hK => ?_) (AllReady.cons (i := 10) (o := ⟨some 14, _, _, _, _, _⟩) rfl (fun K hK => ?_) (AllReady.nil))
          · refine step_norm9 rfl _ _ (norm (p.take m)).length (fun A0 c0 w0 => w0.ownsRow wd1.heap.size 5 1 (.slice A0 (norm (p.take m)).length c0) (norm (p.take m)).length ((norm (p.take m)).map bv) ∧ Below wd1.heap.size wd1 w0) rfl rfl (NMH.out _ HB.out) ?_
            intro A6 c6 wd2 hres
            obtain ⟨hown6, hbel⟩ := hres
            have HNE : Hid (∀ b o, norm (p.take m) ≠ [] → A6 = some ⟨b, o, none⟩ → b ≠ g) := fun b o hne hA => by
              obtain ⟨g6, hA6, hge, _⟩ := own_addr hown6 (List.length_pos_iff.2 hne)
              have := (own_some HMK.out).2
              rw [hA] at hA6
              injection hA6 with e1
              injection e1 with e1 _
              omega
            refine hK _ _ ?_
            clear hK K
            simp only [Act.put, List.setIfInBounds_toArray, List.set_cons_zero, List.set_cons_succ]
            replace HB := Lib.hid (HB.out.trans (hbel.mono HB.out.size))
            replace HMK := Lib.hid (own_below HMK.out hbel)
            replace HBB := Lib.hid (HBB.out.below hbel)
            have HCN := Lib.hid (own_sl hown6)
            clear hown6 hbel
            refine wpAny_ready (rs := [10]) (by kernel_rfl) (by simp) ?_
            refine AllReady.cons (i := 10) (o := ⟨some 14, _, _, _, _, _⟩) rfl (fun K hK => ?_) (AllReady.nil)
            · refine step_alloc9 rfl rfl w4.heap.size HB.out.size ?_
              intro qa wd3 hqa hqa2 hblk hbel
              have hab : qa ≠ qb := by have := HBB.out.lt; omega
              refine hK _ _ ?_
              clear hK K
              simp only [Act.put, List.setIfInBounds_toArray, List.set_cons_zero, List.set_cons_succ]
              replace HB := Lib.hid (HB.out.trans (hbel.mono HB.out.size))
              replace HMK := Lib.hid (own_below HMK.out hbel)
              replace HBB := Lib.hid (HBB.out.below hbel)
              replace HCN := Lib.hid (Sl.below HCN.out hbel)
              have HAA := Lib.hid hblk
              clear hblk hbel hqa2
              have y1 := HAA.out.cell 0
              have y2 := HBB.out.cell 0
              have z1 := HAA.out.frozen 0
              have z2 := HBB.out.frozen 0
              simp only [List.getElem?_toArray, List.getElem?_cons_zero] at y1 y2
              have hba := hab.symm
              refine wpAny_ready (rs := [12]) (by kernel_rfl) (by simp) ?_
              refine AllReady.cons (i := 12) (o := ⟨none, _, _, _, _, _⟩) rfl (fun K hK => ?_) AllReady.nil
              go_simp
              refine hK _ _ ?_
              clear hK K
              try simp only [Act.put, List.setIfInBounds_toArray, List.set_cons_zero, List.set_cons_succ]
              refine wpAny_ready (rs := [13]) (by kernel_rfl) (by simp) ?_
              refine AllReady.cons (i := 13) (o := ⟨none, _, _, _, _, _⟩) rfl (fun K hK => ?_) AllReady.nil
              go_simp
              refine hK _ _ ?_
              clear hK K
              try simp only [Act.put, List.setIfInBounds_toArray, List.set_cons_zero, List.set_cons_succ]
              refine wpAny_done (by kernel_rfl) ?_ _
              go_wp2_with fail
              go_meet
              exact cut8 HB.out HMK.out HCN.out HAA.out HBB.out hqa hqb hab HNE.out
          · refine step_alloc9 rfl rfl w4.heap.size HB.out.size ?_
            intro qa wd2 hqa hqa2 hblk hbel
            have hab : qa ≠ qb := by have := HBB.out.lt; omega
            refine hK _ _ ?_
            clear hK K
            simp only [Act.put, List.setIfInBounds_toArray, List.set_cons_zero, List.set_cons_succ]
            replace HB := Lib.hid (HB.out.trans (hbel.mono HB.out.size))
            replace HMK := Lib.hid (own_below HMK.out hbel)
            replace HBB := Lib.hid (HBB.out.below hbel)
            have HAA := Lib.hid hblk
            clear hblk hbel hqa2
            refine wpAny_ready (rs := [9]) (by kernel_rfl) (by simp) ?_
            refine AllReady.cons (i := 9) (o := ⟨some 58, _, _, _, _, _⟩) rfl (fun K hK => ?_) (AllReady.nil)
            · refine step_norm9 rfl _ _ (norm (p.take m)).length (fun A0 c0 w0 => w0.ownsRow wd2.heap.size 5 1 (.slice A0 (norm (p.take m)).length c0) (norm (p.take m)).length ((norm (p.take m)).map bv) ∧ Below wd2.heap.size wd2 w0) rfl rfl (NMH.out _ HB.out) ?_
              intro A6 c6 wd3 hres
              obtain ⟨hown6, hbel⟩ := hres
              have HNE : Hid (∀ b o, norm (p.take m) ≠ [] → A6 = some ⟨b, o, none⟩ → b ≠ g) := fun b o hne hA => by
                obtain ⟨g6, hA6, hge, _⟩ := own_addr hown6 (List.length_pos_iff.2 hne)
                have := (own_some HMK.out).2
                rw [hA] at hA6
                injection hA6 with e1
                injection e1 with e1 _
                omega
              refine hK _ _ ?_
              clear hK K
              simp only [Act.put, List.setIfInBounds_toArray, List.set_cons_zero, List.set_cons_succ]
              replace HB := Lib.hid (HB.out.trans (hbel.mono HB.out.size))
              replace HMK := Lib.hid (own_below HMK.out hbel)
              replace HBB := Lib.hid (HBB.out.below hbel)
              replace HAA := Lib.hid (HAA.out.below hbel)
              have HCN := Lib.hid (own_sl hown6)
              clear hown6 hbel
              have y1 := HAA.out.cell 0
              have y2 := HBB.out.cell 0
              have z1 := HAA.out.frozen 0
              have z2 := HBB.out.frozen 0
              simp only [List.getElem?_toArray, List.getElem?_cons_zero] at y1 y2
              have hba := hab.symm
              refine wpAny_ready (rs := [12]) (by kernel_rfl) (by simp) ?_
              refine AllReady.cons (i := 12) (o := ⟨none, _, _, _, _, _⟩) rfl (fun K hK => ?_) AllReady.nil
              go_simp
              refine hK _ _ ?_
              clear hK K
              try simp only [Act.put, List.setIfInBounds_toArray, List.set_cons_zero, List.set_cons_succ]
              refine wpAny_ready (rs := [13]) (by kernel_rfl) (by simp) ?_
              refine AllReady.cons (i := 13) (o := ⟨none, _, _, _, _, _⟩) rfl (fun K hK => ?_) AllReady.nil
              go_simp
              refine hK _ _ ?_
              clear hK K
              try simp only [Act.put, List.setIfInBounds_toArray, List.set_cons_zero, List.set_cons_succ]
              refine wpAny_done (by kernel_rfl) ?_ _
              go_wp2_with fail
              go_meet
              exact cut8 HB.out HMK.out HCN.out HAA.out HBB.out hqa hqb hab HNE.out
      · refine step_norm9 rfl _ _ (norm (p.take m)).length (fun A0 c0 w0 => w0.ownsRow w4.drew.heap.size 5 1 (.slice A0 (norm (p.take m)).length c0) (norm (p.take m)).length ((norm (p.take m)).map bv) ∧ Below w4.drew.heap.size w4.drew w0) rfl rfl (NMH.out _ HB.out) ?_
        intro A6 c6 wd0 hres
        obtain ⟨hown6, hbel⟩ := hres
        refine hK _ _ ?_
        clear hK K
        simp only [Act.put, List.setIfInBounds_toArray, List.set_cons_zero, List.set_cons_succ]
        replace HB := Lib.hid (HB.out.trans (hbel.mono HB.out.size))
        have HCN := Lib.hid (own_sl hown6)
        clear hown6 hbel
        refine wpAny_ready (rs := [2, 10, 11]) (by kernel_rfl) (by simp) ?_
        refine AllReady.cons (i := 2) (o := ⟨some 51, _, _, _, _, _⟩) rfl (fun K hK => ?_) (AllReady.cons (i := 10) (o := ⟨some 14, _, _, _, _, _⟩) rfl (fun K hK => ?_) (AllReady.cons (i := 11) (o := ⟨some 15, _, _, _, _, _⟩) rfl (fun K hK => ?_) (AllReady.nil)))
        · refine step_make9 rfl _ _ rfl .i64 .i64 ((m : Int) + 1) ((m : Int) + 1) (m + 1) w4.heap.size rfl rfl HM1.out HM1.out (by omega) HB.out.size ?_
          intro g wd1 hg9 hown hbel
          have HNE : Hid (∀ b o, norm (p.take m) ≠ [] → A6 = some ⟨b, o, none⟩ → b ≠ g) := fun b o hne hA => by
            obtain ⟨b', o', hA', hlt, _⟩ := Bs.at' HCN.out (List.length_pos_iff.2 hne)
            rw [hA] at hA'
            injection hA' with e1
            injection e1 with e1 _
            omega
          refine hK _ _ ?_
          clear hK K
          simp only [Act.put, List.setIfInBounds_toArray, List.set_cons_zero, List.set_cons_succ]
          replace HB := Lib.hid (HB.out.trans (hbel.mono HB.out.size))
          replace HCN := Lib.hid (Sl.below HCN.out hbel)
          have HMK := Lib.hid hown
          clear hown hbel hg9
          refine wpAny_ready (rs := [10, 11]) (by kernel_rfl) (by simp) ?_
          refine AllReady.cons (i := 10) (o := ⟨some 14, _, _, _, _, _⟩) rfl (fun K hK => ?_) (AllReady.cons (i := 11) (o := ⟨some 15, _, _, _, _, _⟩) rfl (fun K hK => ?_) (AllReady.nil))
          · refine step_alloc9 rfl rfl w4.heap.size HB.out.size ?_
            intro qa wd2 hqa hqa2 hblk hbel
            refine hK _ _ ?_
            clear hK K
            simp only [Act.put, List.setIfInBounds_toArray, List.set_cons_zero, List.set_cons_succ]
            replace HB := Lib.hid (HB.out.trans (hbel.mono HB.out.size))
            replace HCN := Lib.hid (Sl.below HCN.out hbel)
            replace HMK := Lib.hid (own_below HMK.out hbel)
            have HAA := Lib.hid hblk
            clear hblk hbel hqa2
            refine wpAny_ready (rs := [11]) (by kernel_rfl) (by simp) ?_
            refine AllReady.cons (i := 11) (o := ⟨some 15, _, _, _, _, _⟩) rfl (fun K hK => ?_) (AllReady.nil)
            · refine step_alloc9 rfl rfl w4.heap.size HB.out.size ?_
              intro qb wd3 hqb hqb2 hblk hbel
              have hab : qa ≠ qb := by have := HAA.out.lt; omega
              refine hK _ _ ?_
              clear hK K
              simp only [Act.put, List.setIfInBounds_toArray, List.set_cons_zero, List.set_cons_succ]
              replace HB := Lib.hid (HB.out.trans (hbel.mono HB.out.size))
              replace HCN := Lib.hid (Sl.below HCN.out hbel)
              replace HMK := Lib.hid (own_below HMK.out hbel)
              replace HAA := Lib.hid (HAA.out.below hbel)
              have HBB := Lib.hid hblk
              clear hblk hbel hqb2
              have y1 := HAA.out.cell 0
              have y2 := HBB.out.cell 0
              have z1 := HAA.out.frozen 0
              have z2 := HBB.out.frozen 0
              simp only [List.getElem?_toArray, List.getElem?_cons_zero] at y1 y2
              have hba := hab.symm
              refine wpAny_ready (rs := [12]) (by kernel_rfl) (by simp) ?_
              refine AllReady.cons (i := 12) (o := ⟨none, _, _, _, _, _⟩) rfl (fun K hK => ?_) AllReady.nil
              go_simp
              refine hK _ _ ?_
              clear hK K
              try simp only [Act.put, List.setIfInBounds_toArray, List.set_cons_zero, List.set_cons_succ]
              refine wpAny_ready (rs := [13]) (by kernel_rfl) (by simp) ?_
              refine AllReady.cons (i := 13) (o := ⟨none, _, _, _, _, _⟩) rfl (fun K hK => ?_) AllReady.nil
              go_simp
              refine hK _ _ ?_
              clear hK K
              try simp only [Act.put, List.setIfInBounds_toArray, List.set_cons_zero, List.set_cons_succ]
              refine wpAny_done (by kernel_rfl) ?_ _
              go_wp2_with fail
              go_meet
              exact cut8 HB.out HMK.out HCN.out HAA.out HBB.out hqa hqb hab HNE.out
          · refine step_alloc9 rfl rfl w4.heap.size HB.out.size ?_
            intro qb wd2 hqb hqb2 hblk hbel
            refine hK _ _ ?_
            clear hK K
            simp only [Act.put, List.setIfInBounds_toArray, List.set_cons_zero, List.set_cons_succ]
            replace HB := Lib.hid (HB.out.trans (hbel.mono HB.out.size))
            replace HCN := Lib.hid (Sl.below HCN.out hbel)
            replace HMK := Lib.hid (own_below HMK.out hbel)
            have HBB := Lib.hid hblk
            clear hblk hbel hqb2
            refine wpAny_ready (rs := [10]) (by kernel_rfl) (by simp) ?_
            refine AllReady.cons (i := 10) (o := ⟨some 14, _, _, _, _, _⟩) rfl (fun K hK => ?_) (AllReady.nil)
            · refine step_alloc9 rfl rfl w4.heap.size HB.out.size ?_
              intro qa wd3 hqa hqa2 hblk hbel
              have hab : qa ≠ qb := by have := HBB.out.lt; omega
              refine hK _ _ ?_
              clear hK K
              simp only [Act.put, List.setIfInBounds_toArray, List.set_cons_zero, List.set_cons_succ]
              replace HB := Lib.hid (HB.out.trans (hbel.mono HB.out.size))
              replace HCN := Lib.hid (Sl.below HCN.out hbel)
              replace HMK := Lib.hid (own_below HMK.out hbel)
              replace HBB := Lib.hid (HBB.out.below hbel)
              have HAA := Lib.hid hblk
              clear hblk hbel hqa2
              have y1 := HAA.out.cell 0
              have y2 := HBB.out.cell 0
              have z1 := HAA.out.frozen 0
              have z2 := HBB.out.frozen 0
              simp only [List.getElem?_toArray, List.getElem?_cons_zero] at y1 y2
              have hba := hab.symm
              refine wpAny_ready (rs := [12]) (by kernel_rfl) (by simp) ?_
              refine AllReady.cons (i := 12) (o := ⟨none, _, _, _, _, _⟩) rfl (fun K hK => ?_) AllReady.nil
              go_simp
              refine hK _ _ ?_
              clear hK K
              try simp only [Act.put, List.setIfInBounds_toArray, List.set_cons_zero, List.set_cons_succ]
              refine wpAny_ready (rs := [13]) (by kernel_rfl) (by simp) ?_
              refine AllReady.cons (i := 13) (o := ⟨none, _, _, _, _, _⟩) rfl (fun K hK => ?_) AllReady.nil
              go_simp
              refine hK _ _ ?_
              clear hK K
              try simp only [Act.put, List.setIfInBounds_toArray, List.set_cons_zero, List.set_cons_succ]
              refine wpAny_done (by kernel_rfl) ?_ _
              go_wp2_with fail
              go_meet
              exact cut8 HB.out HMK.out HCN.out HAA.out HBB.out hqa hqb hab HNE.out
        · refine step_alloc9 rfl rfl w4.heap.size HB.out.size ?_
          intro qa wd1 hqa hqa2 hblk hbel
          refine hK _ _ ?_
          clear hK K
          simp only [Act.put, List.setIfInBounds_toArray, List.set_cons_zero, List.set_cons_succ]
          replace HB := Lib.hid (HB.out.trans (hbel.mono HB.out.size))
          replace HCN := Lib.hid (Sl.below HCN.out hbel)
          have HAA := Lib.hid hblk
          clear hblk hbel hqa2
          refine wpAny_ready (rs := [2, 11]) (by kernel_rfl) (by simp) ?_
          refine AllReady.cons (i := 2) (o := ⟨some 51, _, _, _, _, _⟩) rfl (fun K hK => ?_) (AllReady.cons (i := 11) (o := ⟨some 15, _, _, _, _, _⟩) rfl (fun K hK => ?_) (AllReady.nil))
          · refine step_make9 rfl _ _ rfl .i64 .i64 ((m : Int) + 1) ((m : Int) + 1) (m + 1) w4.heap.size rfl rfl HM1.out HM1.out (by omega) HB.out.size ?_
            intro g wd2 hg9 hown hbel
            have HNE : Hid (∀ b o, norm (p.take m) ≠ [] → A6 = some ⟨b, o, none⟩ → b ≠ g) := fun b o hne hA => by
              obtain ⟨b', o', hA', hlt, _⟩ := Bs.at' HCN.out (List.length_pos_iff.2 hne)
              rw [hA] at hA'
              injection hA' with e1
              injection e1 with e1 _
              omega
            refine hK _ _ ?_
            clear hK K
            simp only [Act.put, List.setIfInBounds_toArray, List.set_cons_zero, List.set_cons_succ]
            replace HB := Lib.hid (HB.out.trans (hbel.mono HB.out.size))
            replace HCN := Lib.hid (Sl.below HCN.out hbel)
            replace HAA := Lib.hid (HAA.out.below hbel)
            have HMK := Lib.hid hown
            clear hown hbel hg9
            refine wpAny_ready (rs := [11]) (by kernel_rfl) (by simp) ?_
            refine AllReady.cons (i := 11) (o := ⟨some 15, _, _, _, _, _⟩) rfl (fun K hK => ?_) (AllReady.nil)
            · refine step_alloc9 rfl rfl w4.heap.size HB.out.size ?_
              intro qb wd3 hqb hqb2 hblk hbel
              have hab : qa ≠ qb := by have := HAA.out.lt; omega
              refine hK _ _ ?_
              clear hK K
              simp only [Act.put, List.setIfInBounds_toArray, List.set_cons_zero, List.set_cons_succ]
              replace HB := Lib.hid (HB.out.trans (hbel.mono HB.out.size))
              replace HCN := Lib.hid (Sl.below HCN.out hbel)
              replace HAA := Lib.hid (HAA.out.below hbel)
              replace HMK := Lib.hid (own_below HMK.out hbel)
              have HBB := Lib.hid hblk
              clear hblk hbel hqb2
              have y1 := HAA.out.cell 0
              have y2 := HBB.out.cell 0
              have z1 := HAA.out.frozen 0
              have z2 := HBB.out.frozen 0
              simp only [List.getElem?_toArray, List.getElem?_cons_zero] at y1 y2
              have hba := hab.symm
              refine wpAny_ready (rs := [12]) (by kernel_rfl) (by simp) ?_
              refine AllReady.cons (i := 12) (o := ⟨none, _, _, _, _, _⟩) rfl (fun K hK => ?_) AllReady.nil
              go_simp
              refine hK _ _ ?_
              clear hK K
              try simp only [Act.put, List.setIfInBounds_toArray, List.set_cons_zero, List.set_cons_succ]
              refine wpAny_ready (rs := [13]) (by kernel_rfl) (by simp) ?_
              refine AllReady.cons (i := 13) (o := ⟨none, _, _, _, _, _⟩) rfl (fun K hK => ?_) AllReady.nil
              go_simp
              refine hK _ _ ?_
              clear hK K
              try simp only [Act.put, List.setIfInBounds_toArray, List.set_cons_zero, List.set_cons_succ]
              refine wpAny_done (by kernel_rfl) ?_ _
              go_wp2_with fail
              go_meet
              exact cut8 HB.out HMK.out HCN.out HAA.out HBB.out hqa hqb hab HNE.out
          · refine step_alloc9 rfl rfl w4.heap.size HB.out.size ?_
            intro qb wd2 hqb hqb2 hblk hbel
            have hab : qa ≠ qb := by have := HAA.out.lt; omega
            refine hK _ _ ?_
            clear hK K
            simp only [Act.put, List.setIfInBounds_toArray, List.set_cons_zero, List.set_cons_succ]
            replace HB := Lib.hid (HB.out.trans (hbel.mono HB.out.size))
            replace HCN := Lib.hid (Sl.below HCN.out hbel)
            replace HAA := Lib.hid (HAA.out.below hbel)
            have HBB := Lib.hid hblk
            clear hblk hbel hqb2
            refine wpAny_ready (rs := [2]) (by kernel_rfl) (by simp) ?_
            refine AllReady.cons (i := 2) (o := ⟨some 51, _, _, _, _, _⟩) rfl (fun K hK => ?_) (AllReady.nil)
            · refine step_make9 rfl _ _ rfl .i64 .i64 ((m : Int) + 1) ((m : Int) + 1) (m + 1) w4.heap.size rfl rfl HM1.out HM1.out (by omega) HB.out.size ?_
              intro g wd3 hg9 hown hbel
              have HNE : Hid (∀ b o, norm (p.take m) ≠ [] → A6 = some ⟨b, o, none⟩ → b ≠ g) := fun b o hne hA => by
                obtain ⟨b', o', hA', hlt, _⟩ := Bs.at' HCN.out (List.length_pos_iff.2 hne)
                rw [hA] at hA'
                injection hA' with e1
                injection e1 with e1 _
                omega
              refine hK _ _ ?_
              clear hK K
              simp only [Act.put, List.setIfInBounds_toArray, List.set_cons_zero, List.set_cons_succ]
              replace HB := Lib.hid (HB.out.trans (hbel.mono HB.out.size))
              replace HCN := Lib.hid (Sl.below HCN.out hbel)
              replace HAA := Lib.hid (HAA.out.below hbel)
              replace HBB := Lib.hid (HBB.out.below hbel)
              have HMK := Lib.hid hown
              clear hown hbel hg9
              have y1 := HAA.out.cell 0
              have y2 := HBB.out.cell 0
              have z1 := HAA.out.frozen 0
              have z2 := HBB.out.frozen 0
              simp only [List.getElem?_toArray, List.getElem?_cons_zero] at y1 y2
              have hba := hab.symm
              refine wpAny_ready (rs := [12]) (by kernel_rfl) (by simp) ?_
              refine AllReady.cons (i := 12) (o := ⟨none, _, _, _, _, _⟩) rfl (fun K hK => ?_) AllReady.nil
              go_simp
              refine hK _ _ ?_
              clear hK K
              try simp only [Act.put, List.setIfInBounds_toArray, List.set_cons_zero, List.set_cons_succ]
              refine wpAny_ready (rs := [13]) (by kernel_rfl) (by simp) ?_
              refine AllReady.cons (i := 13) (o := ⟨none, _, _, _, _, _⟩) rfl (fun K hK => ?_) AllReady.nil
              go_simp
              refine hK _ _ ?_
              clear hK K
              try simp only [Act.put, List.setIfInBounds_toArray, List.set_cons_zero, List.set_cons_succ]
              refine wpAny_done (by kernel_rfl) ?_ _
              go_wp2_with fail
              go_meet
              exact cut8 HB.out HMK.out HCN.out HAA.out HBB.out hqa hqb hab HNE.out
        · refine step_alloc9 rfl rfl w4.heap.size HB.out.size ?_
          intro qb wd1 hqb hqb2 hblk hbel
          refine hK _ _ ?_
          clear hK K
          simp only [Act.put, List.setIfInBounds_toArray, List.set_cons_zero, List.set_cons_succ]
          replace HB := Lib.hid (HB.out.trans (hbel.mono HB.out.size))
          replace HCN := Lib.hid (Sl.below HCN.out hbel)
          have HBB := Lib.hid hblk
          clear hblk hbel hqb2
          refine wpAny_ready (rs := [2, 10]) (by kernel_rfl) (by simp) ?_
          refine AllReady.cons (i := 2) (o := ⟨some 51, _, _, _, _, _⟩) rfl (fun K hK => ?_) (AllReady.cons (i := 10) (o := ⟨some 14, _, _, _, _, _⟩) rfl (fun K hK => ?_) (AllReady.nil))
          · refine step_make9 rfl _ _ rfl .i64 .i64 ((m : Int) + 1) ((m : Int) + 1) (m + 1) w4.heap.size rfl rfl HM1.out HM1.out (by omega) HB.out.size ?_
            intro g wd2 hg9 hown hbel
            have HNE : Hid (∀ b o, norm (p.take m) ≠ [] → A6 = some ⟨b, o, none⟩ → b ≠ g) := fun b o hne hA => by
              obtain ⟨b', o', hA', hlt, _⟩ := Bs.at' HCN.out (List.length_pos_iff.2 hne)
              rw [hA] at hA'
              injection hA' with e1
              injection e1 with e1 _
              omega
            refine hK _ _ ?_
            clear hK K
            simp only [Act.put, List.setIfInBounds_toArray, List.set_cons_zero, List.set_cons_succ]
            replace HB := Lib.hid (HB.out.trans (hbel.mono HB.out.size))
            replace HCN := Lib.hid (Sl.below HCN.out hbel)
            replace HBB := Lib.hid (HBB.out.below hbel)
            have HMK := Lib.hid hown
            clear hown hbel hg9
            refine wpAny_ready (rs := [10]) (by kernel_rfl) (by simp) ?_
            refine AllReady.cons (i := 10) (o := ⟨some 14, _, _, _, _, _⟩) rfl (fun K hK => ?_) (AllReady.nil)
            · refine step_alloc9 rfl rfl w4.heap.size HB.out.size ?_
              intro qa wd3 hqa hqa2 hblk hbel
              have hab : qa ≠ qb := by have := HBB.out.lt; omega
              refine hK _ _ ?_
              clear hK K
              simp only [Act.put, List.setIfInBounds_toArray, List.set_cons_zero, List.set_cons_succ]
              replace HB := Lib.hid (HB.out.trans (hbel.mono HB.out.size))
              replace HCN := Lib.hid (Sl.below HCN.out hbel)
              replace HBB := Lib.hid (HBB.out.below hbel)
              replace HMK := Lib.hid (own_below HMK.out hbel)
              have HAA := Lib.hid hblk
              clear hblk hbel hqa2
              have y1 := HAA.out.cell 0
              have y2 := HBB.out.cell 0
              have z1 := HAA.out.frozen 0
              have z2 := HBB.out.frozen 0
              simp only [List.getElem?_toArray, List.getElem?_cons_zero] at y1 y2
              have hba := hab.symm
              refine wpAny_ready (rs := [12]) (by kernel_rfl) (by simp) ?_
              refine AllReady.cons (i := 12) (o := ⟨none, _, _, _, _, _⟩) rfl (fun K hK => ?_) AllReady.nil
              go_simp
              refine hK _ _ ?_
              clear hK K
              try simp only [Act.put, List.setIfInBounds_toArray, List.set_cons_zero, List.set_cons_succ]
              refine wpAny_ready (rs := [13]) (by kernel_rfl) (by simp) ?_
              refine AllReady.cons (i := 13) (o := ⟨none, _, _, _, _, _⟩) rfl (fun K hK => ?_) AllReady.nil
              go_simp
              refine hK _ _ ?_
              clear hK K
              try simp only [Act.put, List.setIfInBounds_toArray, List.set_cons_zero, List.set_cons_succ]
              refine wpAny_done (by kernel_rfl) ?_ _
              go_wp2_with fail
              go_meet
              exact cut8 HB.out HMK.out HCN.out HAA.out HBB.out hqa hqb hab HNE.out
          · refine step_alloc9 rfl rfl w4.heap.size HB.out.size ?_
            intro qa wd2 hqa hqa2 hblk hbel
            have hab : qa ≠ qb := by have := HBB.out.lt; omega
            refine hK _ _ ?_
            clear hK K
            simp only [Act.put, List.setIfInBounds_toArray, List.set_cons_zero, List.set_cons_succ]
            replace HB := Lib.hid (HB.out.trans (hbel.mono HB.out.size))
            replace HCN := Lib.hid (Sl.below HCN.out hbel)
            replace HBB := Lib.hid (HBB.out.below hbel)
            have HAA := Lib.hid hblk
            clear hblk hbel hqa2
            refine wpAny_ready (rs := [2]) (by kernel_rfl) (by simp) ?_
            refine AllReady.cons (i := 2) (o := ⟨some 51, _, _, _, _, _⟩) rfl (fun K hK => ?_) (AllReady.nil)
            · refine step_make9 rfl _ _ rfl .i64 .i64 ((m : Int) + 1) ((m : Int) + 1) (m + 1) w4.heap.size rfl rfl HM1.out HM1.out (by omega) HB.out.size ?_
              intro g wd3 hg9 hown hbel
              have HNE : Hid (∀ b o, norm (p.take m) ≠ [] → A6 = some ⟨b, o, none⟩ → b ≠ g) := fun b o hne hA => by
                obtain ⟨b', o', hA', hlt, _⟩ := Bs.at' HCN.out (List.length_pos_iff.2 hne)
                rw [hA] at hA'
                injection hA' with e1
                injection e1 with e1 _
                omega
              refine hK _ _ ?_
              clear hK K
              simp only [Act.put, List.setIfInBounds_toArray, List.set_cons_zero, List.set_cons_succ]
              replace HB := Lib.hid (HB.out.trans (hbel.mono HB.out.size))
              replace HCN := Lib.hid (Sl.below HCN.out hbel)
              replace HBB := Lib.hid (HBB.out.below hbel)
              replace HAA := Lib.hid (HAA.out.below hbel)
              have HMK := Lib.hid hown
              clear hown hbel hg9
              have y1 := HAA.out.cell 0
              have y2 := HBB.out.cell 0
              have z1 := HAA.out.frozen 0
              have z2 := HBB.out.frozen 0
              simp only [List.getElem?_toArray, List.getElem?_cons_zero] at y1 y2
              have hba := hab.symm
              refine wpAny_ready (rs := [12]) (by kernel_rfl) (by simp) ?_
              refine AllReady.cons (i := 12) (o := ⟨none, _, _, _, _, _⟩) rfl (fun K hK => ?_) AllReady.nil
              go_simp
              refine hK _ _ ?_
              clear hK K
              try simp only [Act.put, List.setIfInBounds_toArray, List.set_cons_zero, List.set_cons_succ]
              refine wpAny_ready (rs := [13]) (by kernel_rfl) (by simp) ?_
              refine AllReady.cons (i := 13) (o := ⟨none, _, _, _, _, _⟩) rfl (fun K hK => ?_) AllReady.nil
              go_simp
              refine hK _ _ ?_
              clear hK K
              try simp only [Act.put, List.setIfInBounds_toArray, List.set_cons_zero, List.set_cons_succ]
              refine wpAny_done (by kernel_rfl) ?_ _
              go_wp2_with fail
              go_meet
              exact cut8 HB.out HMK.out HCN.out HAA.out HBB.out hqa hqb hab HNE.out
      · refine step_alloc9 rfl rfl w4.heap.size HB.out.size ?_
        intro qa wd0 hqa hqa2 hblk hbel
        refine hK _ _ ?_
        clear hK K
        simp only [Act.put, List.setIfInBounds_toArray, List.set_cons_zero, List.set_cons_succ]
        replace HB := Lib.hid (HB.out.trans (hbel.mono HB.out.size))
        have HAA := Lib.hid hblk
        clear hblk hbel hqa2
        refine wpAny_ready (rs := [2, 9, 11]) (by kernel_rfl) (by simp) ?_
        refine AllReady.cons (i := 2) (o := ⟨some 51, _, _, _, _, _⟩) rfl (fun K hK => ?_) (AllReady.cons (i := 9) (o := ⟨some 58, _, _, _, _, _⟩) rfl (fun K hK => ?_) (AllReady.cons (i := 11) (o := ⟨some 15, _, _, _, _, _⟩) rfl (fun K hK => ?_) (AllReady.nil)))
        · refine step_make9 rfl _ _ rfl .i64 .i64 ((m : Int) + 1) ((m : Int) + 1) (m + 1) w4.heap.size rfl rfl HM1.out HM1.out (by omega) HB.out.size ?_
          intro g wd1 hg9 hown hbel
          refine hK _ _ ?_
          clear hK K
          simp only [Act.put, List.setIfInBounds_toArray, List.set_cons_zero, List.set_cons_succ]
          replace HB := Lib.hid (HB.out.trans (hbel.mono HB.out.size))
          replace HAA := Lib.hid (HAA.out.below hbel)
          have HMK := Lib.hid hown
          clear hown hbel hg9
          refine wpAny_ready (rs := [9, 11]) (by kernel_rfl) (by simp) ?_
          refine AllReady.cons (i := 9) (o := ⟨some 58, _, _, _, _, _⟩) rfl (fun K hK => ?_) (AllReady.cons (i := 11) (o := ⟨some 15, _, _, _, _, _⟩) rfl (fun K hK => ?_) (AllReady.nil))
          · refine step_norm9 rfl _ _ (norm (p.take m)).length (fun A0 c0 w0 => w0.ownsRow wd1.heap.size 5 1 (.slice A0 (norm (p.take m)).length c0) (norm (p.take m)).length ((norm (p.take m)).map bv) ∧ Below wd1.heap.size wd1 w0) rfl rfl (NMH.out _ HB.out) ?_
            intro A6 c6 wd2 hres
            obtain ⟨hown6, hbel⟩ := hres
            have HNE : Hid (∀ b o, norm (p.take m) ≠ [] → A6 = some ⟨b, o, none⟩ → b ≠ g) := fun b o hne hA => by
              obtain ⟨g6, hA6, hge, _⟩ := own_addr hown6 (List.length_pos_iff.2 hne)
              have := (own_some HMK.out).2
              rw [hA] at hA6
              injection hA6 with e1
              injection e1 with e1 _
              omega
            refine hK _ _ ?_
            clear hK K
            simp only [Act.put, List.setIfInBounds_toArray, List.set_cons_zero, List.set_cons_succ]
            replace HB := Lib.hid (HB.out.trans (hbel.mono HB.out.size))
            replace HAA := Lib.hid (HAA.out.below hbel)
            replace HMK := Lib.hid (own_below HMK.out hbel)
            have HCN := Lib.hid (own_sl hown6)
            clear hown6 hbel
            refine wpAny_ready (rs := [11]) (by kernel_rfl) (by simp) ?_
            refine AllReady.cons (i := 11) (o := ⟨some 15, _, _, _, _, _⟩) rfl (fun K hK => ?_) (AllReady.nil)
            · refine step_alloc9 rfl rfl w4.heap.size HB.out.size ?_
              intro qb wd3 hqb hqb2 hblk hbel
              have hab : qa ≠ qb := by have := HAA.out.lt; omega
              refine hK _ _ ?_
              clear hK K
              simp only [Act.put, List.setIfInBounds_toArray, List.set_cons_zero, List.set_cons_succ]
              replace HB := Lib.hid (HB.out.trans (hbel.mono HB.out.size))
              replace HAA := Lib.hid (HAA.out.below hbel)
              replace HMK := Lib.hid (own_below HMK.out hbel)
              replace HCN := Lib.hid (Sl.below HCN.out hbel)
              have HBB := Lib.hid hblk
              clear hblk hbel hqb2
              have y1 := HAA.out.cell 0
              have y2 := HBB.out.cell 0
              have z1 := HAA.out.frozen 0
              have z2 := HBB.out.frozen 0
              simp only [List.getElem?_toArray, List.getElem?_cons_zero] at y1 y2
              have hba := hab.symm
              refine wpAny_ready (rs := [12]) (by kernel_rfl) (by simp) ?_
              refine AllReady.cons (i := 12) (o := ⟨none, _, _, _, _, _⟩) rfl (fun K hK => ?_) AllReady.nil
              go_simp
              refine hK _ _ ?_
              clear hK K
              try simp only [Act.put, List.setIfInBounds_toArray, List.set_cons_zero, List.set_cons_succ]
              refine wpAny_ready (rs := [13]) (by kernel_rfl) (by simp) ?_
              refine AllReady.cons (i := 13) (o := ⟨none, _, _, _, _, _⟩) rfl (fun K hK => ?_) AllReady.nil
              go_simp
              refine hK _ _ ?_
              clear hK K
              try simp only [Act.put, List.setIfInBounds_toArray, List.set_cons_zero, List.set_cons_succ]
              refine wpAny_done (by kernel_rfl) ?_ _
              go_wp2_with fail
              go_meet
              exact cut8 HB.out HMK.out HCN.out HAA.out HBB.out hqa hqb hab HNE.out
          · refine step_alloc9 rfl rfl w4.heap.size HB.out.size ?_
            intro qb wd2 hqb hqb2 hblk hbel
            have hab : qa ≠ qb := by have := HAA.out.lt; omega
            refine hK _ _ ?_
            clear hK K
            simp only [Act.put, List.setIfInBounds_toArray, List.set_cons_zero, List.set_cons_succ]
            replace HB := Lib.hid (HB.out.trans (hbel.mono HB.out.size))
            replace HAA := Lib.hid (HAA.out.below hbel)
            replace HMK := Lib.hid (own_below HMK.out hbel)
            have HBB := Lib.hid hblk
            clear hblk hbel hqb2
            refine wpAny_ready (rs := [9]) (by kernel_rfl) (by simp) ?_
            refine AllReady.cons (i := 9) (o := ⟨some 58, _, _, _, _, _⟩) rfl (fun K hK => ?_) (AllReady.nil)
            · refine step_norm9 rfl _ _ (norm (p.take m)).length (fun A0 c0 w0 => w0.ownsRow wd2.heap.size 5 1 (.slice A0 (norm (p.take m)).length c0) (norm (p.take m)).length ((norm (p.take m)).map bv) ∧ Below wd2.heap.size wd2 w0) rfl rfl (NMH.out _ HB.out) ?_
              intro A6 c6 wd3 hres
              obtain ⟨hown6, hbel⟩ := hres
              have HNE : Hid (∀ b o, norm (p.take m) ≠ [] → A6 = some ⟨b, o, none⟩ → b ≠ g) := fun b o hne hA => by
                obtain ⟨g6, hA6, hge, _⟩ := own_addr hown6 (List.length_pos_iff.2 hne)
                have := (own_some HMK.out).2
                rw [hA] at hA6
                injection hA6 with e1
                injection e1 with e1 _
                omega
              refine hK _ _ ?_
              clear hK K
              simp only [Act.put, List.setIfInBounds_toArray, List.set_cons_zero, List.set_cons_succ]
              replace HB := Lib.hid (HB.out.trans (hbel.mono HB.out.size))
              replace HAA := Lib.hid (HAA.out.below hbel)
              replace HMK := Lib.hid (own_below HMK.out hbel)
              replace HBB := Lib.hid (HBB.out.below hbel)
              have HCN := Lib.hid (own_sl hown6)
              clear hown6 hbel
              have y1 := HAA.out.cell 0
              have y2 := HBB.out.cell 0
              have z1 := HAA.out.frozen 0
              have z2 := HBB.out.frozen 0
              simp only [List.getElem?_toArray, List.getElem?_cons_zero] at y1 y2
              have hba := hab.symm
              refine wpAny_ready (rs := [12]) (by kernel_rfl) (by simp) ?_
              refine AllReady.cons (i := 12) (o := ⟨none, _, _, _, _, _⟩) rfl (fun K hK => ?_) AllReady.nil
              go_simp
              refine hK _ _ ?_
              clear hK K
              try simp only [Act.put, List.setIfInBounds_toArray, List.set_cons_zero, List.set_cons_succ]
              refine wpAny_ready (rs := [13]) (by kernel_rfl) (by simp) ?_
              refine AllReady.cons (i := 13) (o := ⟨none, _, _, _, _, _⟩) rfl (fun K hK => ?_) AllReady.nil
              go_simp
              refine hK _ _ ?_
              clear hK K
              try simp only [Act.put, List.setIfInBounds_toArray, List.set_cons_zero, List.set_cons_succ]
              refine wpAny_done (by kernel_rfl) ?_ _
              go_wp2_with fail
              go_meet
              exact cut8 HB.out HMK.out HCN.out HAA.out HBB.out hqa hqb hab HNE.out
        · refine step_norm9 rfl _ _ (norm (p.take m)).length (fun A0 c0 w0 => w0.ownsRow wd0.heap.size 5 1 (.slice A0 (norm (p.take m)).length c0) (norm (p.take m)).length ((norm (p.take m)).map bv) ∧ Below wd0.heap.size wd0 w0) rfl rfl (NMH.out _ HB.out) ?_
          intro A6 c6 wd1 hres
          obtain ⟨hown6, hbel⟩ := hres
          refine hK _ _ ?_
          clear hK K
          simp only [Act.put, List.setIfInBounds_toArray, List.set_cons_zero, List.set_cons_succ]
          replace HB := Lib.hid (HB.out.trans (hbel.mono HB.out.size))
          replace HAA := Lib.hid (HAA.out.below hbel)
          have HCN := Lib.hid (own_sl hown6)
          clear hown6 hbel
          refine wpAny_ready (rs := [2, 11]) (by kernel_rfl) (by simp) ?_
          refine AllReady.cons (i := 2) (o := ⟨some 51, _, _, _, _, _⟩) rfl (fun K hK => ?_) (AllReady.cons (i := 11) (o := ⟨some 15, _, _, _, _, _⟩) rfl (fun K hK => ?_) (AllReady.nil))
          · refine step_make9 rfl _ _ rfl .i64 .i64 ((m : Int) + 1) ((m : Int) + 1) (m + 1) w4.heap.size rfl rfl HM1.out HM1.out (by omega) HB.out.size ?_
            intro g wd2 hg9 hown hbel
            have HNE : Hid (∀ b o, norm (p.take m) ≠ [] → A6 = some ⟨b, o, none⟩ → b ≠ g) := fun b o hne hA => by
              obtain ⟨b', o', hA', hlt, _⟩ := Bs.at' HCN.out (List.length_pos_iff.2 hne)
              rw [hA] at hA'
              injection hA' with e1
              injection e1 with e1 _
              omega
            refine hK _ _ ?_
            clear hK K
            simp only [Act.put, List.setIfInBounds_toArray, List.set_cons_zero, List.set_cons_succ]
            replace HB := Lib.hid (HB.out.trans (hbel.mono HB.out.size))
            replace HAA := Lib.hid (HAA.out.below hbel)
            replace HCN := Lib.hid (Sl.below HCN.out hbel)
            have HMK := Lib.hid hown
            clear hown hbel hg9
            refine wpAny_ready (rs := [11]) (by kernel_rfl) (by simp) ?_
            refine AllReady.cons (i := 11) (o := ⟨some 15, _, _, _, _, _⟩) rfl (fun K hK => ?_) (AllReady.nil)
            · refine step_alloc9 rfl rfl w4.heap.size HB.out.size ?_
              intro qb wd3 hqb hqb2 hblk hbel
              have hab : qa ≠ qb := by have := HAA.out.lt; omega
              refine hK _ _ ?_
              clear hK K
              simp only [Act.put, List.setIfInBounds_toArray, List.set_cons_zero, List.set_cons_succ]
              replace HB := Lib.hid (HB.out.trans (hbel.mono HB.out.size))
              replace HAA := Lib.hid (HAA.out.below hbel)
              replace HCN := Lib.hid (Sl.below HCN.out hbel)
              replace HMK := Lib.hid (own_below HMK.out hbel)
              have HBB := Lib.hid hblk
              clear hblk hbel hqb2
              have y1 := HAA.out.cell 0
              have y2 := HBB.out.cell 0
              have z1 := HAA.out.frozen 0
              have z2 := HBB.out.frozen 0
              simp only [List.getElem?_toArray, List.getElem?_cons_zero] at y1 y2
              have hba := hab.symm
              refine wpAny_ready (rs := [12]) (by kernel_rfl) (by simp) ?_
              refine AllReady.cons (i := 12) (o := ⟨none, _, _, _, _, _⟩) rfl (fun K hK => ?_) AllReady.nil
              go_simp
              refine hK _ _ ?_
              clear hK K
              try simp only [Act.put, List.setIfInBounds_toArray, List.set_cons_zero, List.set_cons_succ]
              refine wpAny_ready (rs := [13]) (by kernel_rfl) (by simp) ?_
              refine AllReady.cons (i := 13) (o := ⟨none, _, _, _, _, _⟩) rfl (fun K hK => ?_) AllReady.nil
              go_simp
              refine hK _ _ ?_
              clear hK K
              try simp only [Act.put, List.setIfInBounds_toArray, List.set_cons_zero, List.set_cons_succ]
              refine wpAny_done (by kernel_rfl) ?_ _
              go_wp2_with fail
              go_meet
              exact cut8 HB.out HMK.out HCN.out HAA.out HBB.out hqa hqb hab HNE.out
          · refine step_alloc9 rfl rfl w4.heap.size HB.out.size ?_
            intro qb wd2 hqb hqb2 hblk hbel
            have hab : qa ≠ qb := by have := HAA.out.lt; omega
            refine hK _ _ ?_
            clear hK K
            simp only [Act.put, List.setIfInBounds_toArray, List.set_cons_zero, List.set_cons_succ]
            replace HB := Lib.hid (HB.out.trans (hbel.mono HB.out.size))
            replace HAA := Lib.hid (HAA.out.below hbel)
            replace HCN := Lib.hid (Sl.below HCN.out hbel)
            have HBB := Lib.hid hblk
            clear hblk hbel hqb2
            refine wpAny_ready (rs := [2]) (by kernel_rfl) (by simp) ?_
            refine AllReady.cons (i := 2) (o := ⟨some 51, _, _, _, _, _⟩) rfl (fun K hK => ?_) (AllReady.nil)
            · refine step_make9 rfl _ _ rfl .i64 .i64 ((m : Int) + 1) ((m : Int) + 1) (m + 1) w4.heap.size rfl rfl HM1.out HM1.out (by omega) HB.out.size ?_
              intro g wd3 hg9 hown hbel
              have HNE : Hid (∀ b o, norm (p.take m) ≠ [] → A6 = some ⟨b, o, none⟩ → b ≠ g) := fun b o hne hA => by
                obtain ⟨b', o', hA', hlt, _⟩ := Bs.at' HCN.out (List.length_pos_iff.2 hne)
                rw [hA] at hA'
                injection hA' with e1
                injection e1 with e1 _
                omega
              refine hK _ _ ?_
              clear hK K
              simp only [Act.put, List.setIfInBounds_toArray, List.set_cons_zero, List.set_cons_succ]
              replace HB := Lib.hid (HB.out.trans (hbel.mono HB.out.size))
              replace HAA := Lib.hid (HAA.out.below hbel)
              replace HCN := Lib.hid (Sl.below HCN.out hbel)
              replace HBB := Lib.hid (HBB.out.below hbel)
              have HMK := Lib.hid hown
              clear hown hbel hg9
              have y1 := HAA.out.cell 0
              have y2 := HBB.out.cell 0
              have z1 := HAA.out.frozen 0
              have z2 := HBB.out.frozen 0
              simp only [List.getElem?_toArray, List.getElem?_cons_zero] at y1 y2
              have hba := hab.symm
              refine wpAny_ready (rs := [12]) (by kernel_rfl) (by simp) ?_
              refine AllReady.cons (i := 12) (o := ⟨none, _, _, _, _, _⟩) rfl (fun K hK => ?_) AllReady.nil
              go_simp
              refine hK _ _ ?_
              clear hK K
              try simp only [Act.put, List.setIfInBounds_toArray, List.set_cons_zero, List.set_cons_succ]
              refine wpAny_ready (rs := [13]) (by kernel_rfl) (by simp) ?_
              refine AllReady.cons (i := 13) (o := ⟨none, _, _, _, _, _⟩) rfl (fun K hK => ?_) AllReady.nil
              go_simp
              refine hK _ _ ?_
              clear hK K
              try simp only [Act.put, List.setIfInBounds_toArray, List.set_cons_zero, List.set_cons_succ]
              refine wpAny_done (by kernel_rfl) ?_ _
              go_wp2_with fail
              go_meet
              exact cut8 HB.out HMK.out HCN.out HAA.out HBB.out hqa hqb hab HNE.out
        · refine step_alloc9 rfl rfl w4.heap.size HB.out.size ?_
          intro qb wd1 hqb hqb2 hblk hbel
          have hab : qa ≠ qb := by have := HAA.out.lt; omega
          refine hK _ _ ?_
          clear hK K
          simp only [Act.put, List.setIfInBounds_toArray, List.set_cons_zero, List.set_cons_succ]
          replace HB := Lib.hid (HB.out.trans (hbel.mono HB.out.size))
          replace HAA := Lib.hid (HAA.out.below hbel)
          have HBB := Lib.hid hblk
          clear hblk hbel hqb2
          refine wpAny_ready (rs := [2, 9]) (by kernel_rfl) (by simp) ?_
          refine AllReady.cons (i := 2) (o := ⟨some 51, _, _, _, _, _⟩) rfl (fun K hK => ?_) (AllReady.cons (i := 9) (o := ⟨some 58, _, _, _, _, _⟩) rfl (fun K hK => ?_) (AllReady.nil))
          · refine step_make9 rfl _ _ rfl .i64 .i64 ((m : Int) + 1) ((m : Int) + 1) (m + 1) w4.heap.size rfl rfl HM1.out HM1.out (by omega) HB.out.size ?_
            intro g wd2 hg9 hown hbel
            refine hK _ _ ?_
            clear hK K
            simp only [Act.put, List.setIfInBounds_toArray, List.set_cons_zero, List.set_cons_succ]
            replace HB := Lib.hid (HB.out.trans (hbel.mono HB.out.size))
            replace HAA := Lib.hid (HAA.out.below hbel)
            replace HBB := Lib.hid (HBB.out.below hbel)
            have HMK := Lib.hid hown
            clear hown hbel hg9
            refine wpAny_ready (rs := [9]) (by kernel_rfl) (by simp) ?_
            refine AllReady.cons (i := 9) (o := ⟨some 58, _, _, _, _, _⟩) rfl (fun K hK => ?_) (AllReady.nil)
            · refine step_norm9 rfl _ _ (norm (p.take m)).length (fun A0 c0 w0 => w0.ownsRow wd2.heap.size 5 1 (.slice A0 (norm (p.take m)).length c0) (norm (p.take m)).length ((norm (p.take m)).map bv) ∧ Below wd2.heap.size wd2 w0) rfl rfl (NMH.out _ HB.out) ?_
              intro A6 c6 wd3 hres
              obtain ⟨hown6, hbel⟩ := hres
              have HNE : Hid (∀ b o, norm (p.take m) ≠ [] → A6 = some ⟨b, o, none⟩ → b ≠ g) := fun b o hne hA => by
                obtain ⟨g6, hA6, hge, _⟩ := own_addr hown6 (List.length_pos_iff.2 hne)
                have := (own_some HMK.out).2
                rw [hA] at hA6
                injection hA6 with e1
                injection e1 with e1 _
                omega
              refine hK _ _ ?_
              clear hK K
              simp only [Act.put, List.setIfInBounds_toArray, List.set_cons_zero, List.set_cons_succ]
              replace HB := Lib.hid (HB.out.trans (hbel.mono HB.out.size))
              replace HAA := Lib.hid (HAA.out.below hbel)
              replace HBB := Lib.hid (HBB.out.below hbel)
              replace HMK := Lib.hid (own_below HMK.out hbel)
              have HCN := Lib.hid (own_sl hown6)
              clear hown6 hbel
              have y1 := HAA.out.cell 0
              have y2 := HBB.out.cell 0
              have z1 := HAA.out.frozen 0
              have z2 := HBB.out.frozen 0
              simp only [List.getElem?_toArray, List.getElem?_cons_zero] at y1 y2
              have hba := hab.symm
              refine wpAny_ready (rs := [12]) (by kernel_rfl) (by simp) ?_
              refine AllReady.cons (i := 12) (o := ⟨none, _, _, _, _, _⟩) rfl (fun K hK => ?_) AllReady.nil
              go_simp
              refine hK _ _ ?_
              clear hK K
              try simp only [Act.put, List.setIfInBounds_toArray, List.set_cons_zero, List.set_cons_succ]
              refine wpAny_ready (rs := [13]) (by kernel_rfl) (by simp) ?_
              refine AllReady.cons (i := 13) (o := ⟨none, _, _, _, _, _⟩) rfl (fun K hK => ?_) AllReady.nil
              go_simp
              refine hK _ _ ?_
              clear hK K
              try simp only [Act.put, List.setIfInBounds_toArray, List.set_cons_zero, List.set_cons_succ]
              refine wpAny_done (by kernel_rfl) ?_ _
              go_wp2_with fail
              go_meet
              exact cut8 HB.out HMK.out HCN.out HAA.out HBB.out hqa hqb hab HNE.out
          · refine step_norm9 rfl _ _ (norm (p.take m)).length (fun A0 c0 w0 => w0.ownsRow wd1.heap.size 5 1 (.slice A0 (norm (p.take m)).length c0) (norm (p.take m)).length ((norm (p.take m)).map bv) ∧ Below wd1.heap.size wd1 w0) rfl rfl (NMH.out _ HB.out) ?_
            intro A6 c6 wd2 hres
            obtain ⟨hown6, hbel⟩ := hres
            refine hK _ _ ?_
            clear hK K
            simp only [Act.put, List.setIfInBounds_toArray, List.set_cons_zero, List.set_cons_succ]
            replace HB := Lib.hid (HB.out.trans (hbel.mono HB.out.size))
            replace HAA := Lib.hid (HAA.out.below hbel)
            replace HBB := Lib.hid (HBB.out.below hbel)
            have HCN := Lib.hid (own_sl hown6)
            clear hown6 hbel
            refine wpAny_ready (rs := [2]) (by kernel_rfl) (by simp) ?_
            refine AllReady.cons (i := 2) (o := ⟨some 51, _, _, _, _, _⟩) rfl (fun K hK => ?_) (AllReady.nil)
            · refine step_make9 rfl _ _ rfl .i64 .i64 ((m : Int) + 1) ((m : Int) + 1) (m + 1) w4.heap.size rfl rfl HM1.out HM1.out (by omega) HB.out.size ?_
              intro g wd3 hg9 hown hbel
              have HNE : Hid (∀ b o, norm (p.take m) ≠ [] → A6 = some ⟨b, o, none⟩ → b ≠ g) := fun b o hne hA => by
                obtain ⟨b', o', hA', hlt, _⟩ := Bs.at' HCN.out (List.length_pos_iff.2 hne)
                rw [hA] at hA'
                injection hA' with e1
                injection e1 with e1 _
                omega
              refine hK _ _ ?_
              clear hK K
              simp only [Act.put, List.setIfInBounds_toArray, List.set_cons_zero, List.set_cons_succ]
              replace HB := Lib.hid (HB.out.trans (hbel.mono HB.out.size))
              replace HAA := Lib.hid (HAA.out.below hbel)
              replace HBB := Lib.hid (HBB.out.below hbel)
              replace HCN := Lib.hid (Sl.below HCN.out hbel)
              have HMK := Lib.hid hown
              clear hown hbel hg9
              have y1 := HAA.out.cell 0
              have y2 := HBB.out.cell 0
              have z1 := HAA.out.frozen 0
              have z2 := HBB.out.frozen 0
              simp only [List.getElem?_toArray, List.getElem?_cons_zero] at y1 y2
              have hba := hab.symm
              refine wpAny_ready (rs := [12]) (by kernel_rfl) (by simp) ?_
              refine AllReady.cons (i := 12) (o := ⟨none, _, _, _, _, _⟩) rfl (fun K hK => ?_) AllReady.nil
              go_simp
              refine hK _ _ ?_
              clear hK K
              try simp only [Act.put, List.setIfInBounds_toArray, List.set_cons_zero, List.set_cons_succ]
              refine wpAny_ready (rs := [13]) (by kernel_rfl) (by simp) ?_
              refine AllReady.cons (i := 13) (o := ⟨none, _, _, _, _, _⟩) rfl (fun K hK => ?_) AllReady.nil
              go_simp
              refine hK _ _ ?_
              clear hK K
              try simp only [Act.put, List.setIfInBounds_toArray, List.set_cons_zero, List.set_cons_succ]
              refine wpAny_done (by kernel_rfl) ?_ _
              go_wp2_with fail
              go_meet
              exact cut8 HB.out HMK.out HCN.out HAA.out HBB.out hqa hqb hab HNE.out
      · refine step_alloc9 rfl rfl w4.heap.size HB.out.size ?_
        intro qb wd0 hqb hqb2 hblk hbel
        refine hK _ _ ?_
        clear hK K
        simp only [Act.put, List.setIfInBounds_toArray, List.set_cons_zero, List.set_cons_succ]
        replace HB := Lib.hid (HB.out.trans (hbel.mono HB.out.size))
        have HBB := Lib.hid hblk
        clear hblk hbel hqb2
        refine wpAny_ready (rs := [2, 9, 10]) (by kernel_rfl) (by simp) ?_
        refine AllReady.cons (i := 2) (o := ⟨some 51, _, _, _, _, _⟩) rfl (fun K hK => ?_) (AllReady.cons (i := 9) (o := ⟨some 58, _, _, _, _, _⟩) rfl (fun K hK => ?_) (AllReady.cons (i := 10) (o := ⟨some 14, _, _, _, _, _⟩) rfl (fun K hK => ?_) (AllReady.nil)))
        · refine step_make9 rfl _ _ rfl .i64 .i64 ((m : Int) + 1) ((m : Int) + 1) (m + 1) w4.heap.size rfl rfl HM1.out HM1.out (by omega) HB.out.size ?_
          intro g wd1 hg9 hown hbel
          refine hK _ _ ?_
          clear hK K
          simp only [Act.put, List.setIfInBounds_toArray, List.set_cons_zero, List.set_cons_succ]
          replace HB := Lib.hid (HB.out.trans (hbel.mono HB.out.size))
          replace HBB := Lib.hid (HBB.out.below hbel)
          have HMK := Lib.hid hown
          clear hown hbel hg9
          refine wpAny_ready (rs := [9, 10]) (by kernel_rfl) (by simp) ?_
          refine AllReady.cons (i := 9) (o := ⟨some 58, _, _, _, _, _⟩) rfl (fun K hK => ?_) (AllReady.cons (i := 10) (o := ⟨some 14, _, _, _, _, _⟩) rfl (fun K hK => ?_) (AllReady.nil))
          · refine step_norm9 rfl _ _ (norm (p.take m)).length (fun A0 c0 w0 => w0.ownsRow wd1.heap.size 5 1 (.slice A0 (norm (p.take m)).length c0) (norm (p.take m)).length ((norm (p.take m)).map bv) ∧ Below wd1.heap.size wd1 w0) rfl rfl (NMH.out _ HB.out) ?_
            intro A6 c6 wd2 hres
            obtain ⟨hown6, hbel⟩ := hres
            have HNE : Hid (∀ b o, norm (p.take m) ≠ [] → A6 = some ⟨b, o, none⟩ → b ≠ g) := fun b o hne hA => by
              obtain ⟨g6, hA6, hge, _⟩ := own_addr hown6 (List.length_pos_iff.2 hne)
              have := (own_some HMK.out).2
              rw [hA] at hA6
              injection hA6 with e1
              injection e1 with e1 _
              omega
            refine hK _ _ ?_
            clear hK K
            simp only [Act.put, List.setIfInBounds_toArray, List.set_cons_zero, List.set_cons_succ]
            replace HB := Lib.hid (HB.out.trans (hbel.mono HB.out.size))
            replace HBB := Lib.hid (HBB.out.below hbel)
            replace HMK := Lib.hid (own_below HMK.out hbel)
            have HCN := Lib.hid (own_sl hown6)
            clear hown6 hbel
            refine wpAny_ready (rs := [10]) (by kernel_rfl) (by simp) ?_
            refine AllReady.cons (i := 10) (o := ⟨some 14, _, _, _, _, _⟩) rfl (fun K hK => ?_) (AllReady.nil)
            · refine step_alloc9 rfl rfl w4.heap.size HB.out.size ?_
              intro qa wd3 hqa hqa2 hblk hbel
              have hab : qa ≠ qb := by have := HBB.out.lt; omega
              refine hK _ _ ?_
              clear hK K
              simp only [Act.put, List.setIfInBounds_toArray, List.set_cons_zero, List.set_cons_succ]
              replace HB := Lib.hid (HB.out.trans (hbel.mono HB.out.size))
              replace HBB := Lib.hid (HBB.out.below hbel)
              replace HMK := Lib.hid (own_below HMK.out hbel)
              replace HCN := Lib.hid (Sl.below HCN.out hbel)
              have HAA := Lib.hid hblk
              clear hblk hbel hqa2
              have y1 := HAA.out.cell 0
              have y2 := HBB.out.cell 0
              have z1 := HAA.out.frozen 0
              have z2 := HBB.out.frozen 0
              simp only [List.getElem?_toArray, List.getElem?_cons_zero] at y1 y2
              have hba := hab.symm
              refine wpAny_ready (rs := [12]) (by kernel_rfl) (by simp) ?_
              refine AllReady.cons (i := 12) (o := ⟨none, _, _, _, _, _⟩) rfl (fun K hK => ?_) AllReady.nil
              go_simp
              refine hK _ _ ?_
              clear hK K
              try simp only [Act.put, List.setIfInBounds_toArray, List.set_cons_zero, List.set_cons_succ]
              refine wpAny_ready (rs := [13]) (by kernel_rfl) (by simp) ?_
              refine AllReady.cons (i := 13) (o := ⟨none, _, _, _, _, _⟩) rfl (fun K hK => ?_) AllReady.nil
              go_simp
              refine hK _ _ ?_
              clear hK K
              try simp only [Act.put, List.setIfInBounds_toArray, List.set_cons_zero, List.set_cons_succ]
              refine wpAny_done (by kernel_rfl) ?_ _
              go_wp2_with fail
              go_meet
              exact cut8 HB.out HMK.out HCN.out HAA.out HBB.out hqa hqb hab HNE.out
          · refine step_alloc9 rfl rfl w4.heap.size HB.out.size ?_
            intro qa wd2 hqa hqa2 hblk hbel
            have hab : qa ≠ qb := by have := HBB.out.lt; omega
            refine hK _ _ ?_
            clear hK K
            simp only [Act.put, List.setIfInBounds_toArray, List.set_cons_zero, List.set_cons_succ]
            replace HB := Lib.hid (HB.out.trans (hbel.mono HB.out.size))
            replace HBB := Lib.hid (HBB.out.below hbel)
            replace HMK := Lib.hid (own_below HMK.out hbel)
            have HAA := Lib.hid hblk
            clear hblk hbel hqa2
            refine wpAny_ready (rs := [9]) (by kernel_rfl) (by simp) ?_
            refine AllReady.cons (i := 9) (o := ⟨some 58, _, _, _, _, _⟩) rfl (fun K hK => ?_) (AllReady.nil)
            · refine step_norm9 rfl _ _ (norm (p.take m)).length (fun A0 c0 w0 => w0.ownsRow wd2.heap.size 5 1 (.slice A0 (norm (p.take m)).length c0) (norm (p.take m)).length ((norm (p.take m)).map bv) ∧ Below wd2.heap.size wd2 w0) rfl rfl (NMH.out _ HB.out) ?_
              intro A6 c6 wd3 hres
              obtain ⟨hown6, hbel⟩ := hres
              have HNE : Hid (∀ b o, norm (p.take m) ≠ [] → A6 = some ⟨b, o, none⟩ → b ≠ g) := fun b o hne hA => by
                obtain ⟨g6, hA6, hge, _⟩ := own_addr hown6 (List.length_pos_iff.2 hne)
                have := (own_some HMK.out).2
                rw [hA] at hA6
                injection hA6 with e1
                injection e1 with e1 _
                omega
              refine hK _ _ ?_
              clear hK K
              simp only [Act.put, List.setIfInBounds_toArray, List.set_cons_zero, List.set_cons_succ]
              replace HB := Lib.hid (HB.out.trans (hbel.mono HB.out.size))
              replace HBB := Lib.hid (HBB.out.below hbel)
              replace HMK := Lib.hid (own_below HMK.out hbel)
              replace HAA := Lib.hid (HAA.out.below hbel)
              have HCN := Lib.hid (own_sl hown6)
              clear hown6 hbel
              have y1 := HAA.out.cell 0
              have y2 := HBB.out.cell 0
              have z1 := HAA.out.frozen 0
              have z2 := HBB.out.frozen 0
              simp only [List.getElem?_toArray, List.getElem?_cons_zero] at y1 y2
              have hba := hab.symm
              refine wpAny_ready (rs := [12]) (by kernel_rfl) (by simp) ?_
              refine AllReady.cons (i := 12) (o := ⟨none, _, _, _, _, _⟩) rfl (fun K hK => ?_) AllReady.nil
              go_simp
              refine hK _ _ ?_
              clear hK K
              try simp only [Act.put, List.setIfInBounds_toArray, List.set_cons_zero, List.set_cons_succ]
              refine wpAny_ready (rs := [13]) (by kernel_rfl) (by simp) ?_
              refine AllReady.cons (i := 13) (o := ⟨none, _, _, _, _, _⟩) rfl (fun K hK => ?_) AllReady.nil
              go_simp
              refine hK _ _ ?_
              clear hK K
              try simp only [Act.put, List.setIfInBounds_toArray, List.set_cons_zero, List.set_cons_succ]
              refine wpAny_done (by kernel_rfl) ?_ _
              go_wp2_with fail
              go_meet
              exact cut8 HB.out HMK.out HCN.out HAA.out HBB.out hqa hqb hab HNE.out
        · refine step_norm9 rfl _ _ (norm (p.take m)).length (fun A0 c0 w0 => w0.ownsRow wd0.heap.size 5 1 (.slice A0 (norm (p.take m)).length c0) (norm (p.take m)).length ((norm (p.take m)).map bv) ∧ Below wd0.heap.size wd0 w0) rfl rfl (NMH.out _ HB.out) ?_
          intro A6 c6 wd1 hres
          obtain ⟨hown6, hbel⟩ := hres
          refine hK _ _ ?_
          clear hK K
          simp only [Act.put, List.setIfInBounds_toArray, List.set_cons_zero, List.set_cons_succ]
          replace HB := Lib.hid (HB.out.trans (hbel.mono HB.out.size))
          replace HBB := Lib.hid (HBB.out.below hbel)
          have HCN := Lib.hid (own_sl hown6)
          clear hown6 hbel
          refine wpAny_ready (rs := [2, 10]) (by kernel_rfl) (by simp) ?_
          refine AllReady.cons (i := 2) (o := ⟨some 51, _, _, _, _, _⟩) rfl (fun K hK => ?_) (AllReady.cons (i := 10) (o := ⟨some 14, _, _, _, _, _⟩) rfl (fun K hK => ?_) (AllReady.nil))
          · refine step_make9 rfl _ _ rfl .i64 .i64 ((m : Int) + 1) ((m : Int) + 1) (m + 1) w4.heap.size rfl rfl HM1.out HM1.out (by omega) HB.out.size ?_
            intro g wd2 hg9 hown hbel
            have HNE : Hid (∀ b o, norm (p.take m) ≠ [] → A6 = some ⟨b, o, none⟩ → b ≠ g) := fun b o hne hA => by
              obtain ⟨b', o', hA', hlt, _⟩ := Bs.at' HCN.out (List.length_pos_iff.2 hne)
              rw [hA] at hA'
              injection hA' with e1
              injection e1 with e1 _
              omega
            refine hK _ _ ?_
            clear hK K
            simp only [Act.put, List.setIfInBounds_toArray, List.set_cons_zero, List.set_cons_succ]
            replace HB := Lib.hid (HB.out.trans (hbel.mono HB.out.size))
            replace HBB := Lib.hid (HBB.out.below hbel)
            replace HCN := Lib.hid (Sl.below HCN.out hbel)
            have HMK := Lib.hid hown
            clear hown hbel hg9
            refine wpAny_ready (rs := [10]) (by kernel_rfl) (by simp) ?_
            refine AllReady.cons (i := 10) (o := ⟨some 14, _, _, _, _, _⟩) rfl (fun K hK => ?_) (AllReady.nil)
            · refine step_alloc9 rfl rfl w4.heap.size HB.out.size ?_
              intro qa wd3 hqa hqa2 hblk hbel
              have hab : qa ≠ qb := by have := HBB.out.lt; omega
              refine hK _ _ ?_
              clear hK K
              simp only [Act.put, List.setIfInBounds_toArray, List.set_cons_zero, List.set_cons_succ]
              replace HB := Lib.hid (HB.out.trans (hbel.mono HB.out.size))
              replace HBB := Lib.hid (HBB.out.below hbel)
              replace HCN := Lib.hid (Sl.below HCN.out hbel)
              replace HMK := Lib.hid (own_below HMK.out hbel)
              have HAA := Lib.hid hblk
              clear hblk hbel hqa2
              have y1 := HAA.out.cell 0
              have y2 := HBB.out.cell 0
              have z1 := HAA.out.frozen 0
              have z2 := HBB.out.frozen 0
              simp only [List.getElem?_toArray, List.getElem?_cons_zero] at y1 y2
              have hba := hab.symm
              refine wpAny_ready (rs := [12]) (by kernel_rfl) (by simp) ?_
              refine AllReady.cons (i := 12) (o := ⟨none, _, _, _, _, _⟩) rfl (fun K hK => ?_) AllReady.nil
              go_simp
              refine hK _ _ ?_
              clear hK K
              try simp only [Act.put, List.setIfInBounds_toArray, List.set_cons_zero, List.set_cons_succ]
              refine wpAny_ready (rs := [13]) (by kernel_rfl) (by simp) ?_
              refine AllReady.cons (i := 13) (o := ⟨none, _, _, _, _, _⟩) rfl (fun K hK => ?_) AllReady.nil
              go_simp
              refine hK _ _ ?_
              clear hK K
              try simp only [Act.put, List.setIfInBounds_toArray, List.set_cons_zero, List.set_cons_succ]
              refine wpAny_done (by kernel_rfl) ?_ _
              go_wp2_with fail
              go_meet
              exact cut8 HB.out HMK.out HCN.out HAA.out HBB.out hqa hqb hab HNE.out
          · refine step_alloc9 rfl rfl w4.heap.size HB.out.size ?_
            intro qa wd2 hqa hqa2 hblk hbel
            have hab : qa ≠ qb := by have := HBB.out.lt; omega
            refine hK _ _ ?_
            clear hK K
            simp only [Act.put, List.setIfInBounds_toArray, List.set_cons_zero, List.set_cons_succ]
            replace HB := Lib.hid (HB.out.trans (hbel.mono HB.out.size))
            replace HBB := Lib.hid (HBB.out.below hbel)
            replace HCN := Lib.hid (Sl.below HCN.out hbel)
            have HAA := Lib.hid hblk
            clear hblk hbel hqa2
            refine wpAny_ready (rs := [2]) (by kernel_rfl) (by simp) ?_
            refine AllReady.cons (i := 2) (o := ⟨some 51, _, _, _, _, _⟩) rfl (fun K hK => ?_) (AllReady.nil)
            · refine step_make9 rfl _ _ rfl .i64 .i64 ((m : Int) + 1) ((m : Int) + 1) (m + 1) w4.heap.size rfl rfl HM1.out HM1.out (by omega) HB.out.size ?_
              intro g wd3 hg9 hown hbel
              have HNE : Hid (∀ b o, norm (p.take m) ≠ [] → A6 = some ⟨b, o, none⟩ → b ≠ g) := fun b o hne hA => by
                obtain ⟨b', o', hA', hlt, _⟩ := Bs.at' HCN.out (List.length_pos_iff.2 hne)
                rw [hA] at hA'
                injection hA' with e1
                injection e1 with e1 _
                omega
              refine hK _ _ ?_
              clear hK K
              simp only [Act.put, List.setIfInBounds_toArray, List.set_cons_zero, List.set_cons_succ]
              replace HB := Lib.hid (HB.out.trans (hbel.mono HB.out.size))
              replace HBB := Lib.hid (HBB.out.below hbel)
              replace HCN := Lib.hid (Sl.below HCN.out hbel)
              replace HAA := Lib.hid (HAA.out.below hbel)
              have HMK := Lib.hid hown
              clear hown hbel hg9
              have y1 := HAA.out.cell 0
              have y2 := HBB.out.cell 0
              have z1 := HAA.out.frozen 0
              have z2 := HBB.out.frozen 0
              simp only [List.getElem?_toArray, List.getElem?_cons_zero] at y1 y2
              have hba := hab.symm
              refine wpAny_ready (rs := [12]) (by kernel_rfl) (by simp) ?_
              refine AllReady.cons (i := 12) (o := ⟨none, _, _, _, _, _⟩) rfl (fun K hK => ?_) AllReady.nil
              go_simp
              refine hK _ _ ?_
              clear hK K
              try simp only [Act.put, List.setIfInBounds_toArray, List.set_cons_zero, List.set_cons_succ]
              refine wpAny_ready (rs := [13]) (by kernel_rfl) (by simp) ?_
              refine AllReady.cons (i := 13) (o := ⟨none, _, _, _, _, _⟩) rfl (fun K hK => ?_) AllReady.nil
              go_simp
              refine hK _ _ ?_
              clear hK K
              try simp only [Act.put, List.setIfInBounds_toArray, List.set_cons_zero, List.set_cons_succ]
              refine wpAny_done (by kernel_rfl) ?_ _
              go_wp2_with fail
              go_meet
              exact cut8 HB.out HMK.out HCN.out HAA.out HBB.out hqa hqb hab HNE.out
        · refine step_alloc9 rfl rfl w4.heap.size HB.out.size ?_
          intro qa wd1 hqa hqa2 hblk hbel
          have hab : qa ≠ qb := by have := HBB.out.lt; omega
          refine hK _ _ ?_
          clear hK K
          simp only [Act.put, List.setIfInBounds_toArray, List.set_cons_zero, List.set_cons_succ]
          replace HB := Lib.hid (HB.out.trans (hbel.mono HB.out.size))
          replace HBB := Lib.hid (HBB.out.below hbel)
          have HAA := Lib.hid hblk
          clear hblk hbel hqa2
          refine wpAny_ready (rs := [2, 9]) (by kernel_rfl) (by simp) ?_
          refine AllReady.cons (i := 2) (o := ⟨some 51, _, _, _, _, _⟩) rfl (fun K hK => ?_) (AllReady.cons (i := 9) (o := ⟨some 58, _, _, _, _, _⟩) rfl (fun K hK => ?_) (AllReady.nil))
          · refine step_make9 rfl _ _ rfl .i64 .i64 ((m : Int) + 1) ((m : Int) + 1) (m + 1) w4.heap.size rfl rfl HM1.out HM1.out (by omega) HB.out.size ?_
            intro g wd2 hg9 hown hbel
            refine hK _ _ ?_
            clear hK K
            simp only [Act.put, List.setIfInBounds_toArray, List.set_cons_zero, List.set_cons_succ]
            replace HB := Lib.hid (HB.out.trans (hbel.mono HB.out.size))
            replace HBB := Lib.hid (HBB.out.below hbel)
            replace HAA := Lib.hid (HAA.out.below hbel)
            have HMK := Lib.hid hown
            clear hown hbel hg9
            refine wpAny_ready (rs := [9]) (by kernel_rfl) (by simp) ?_
            refine AllReady.cons (i := 9) (o := ⟨some 58, _, _, _, _, _⟩) rfl (fun K hK => ?_) (AllReady.nil)
            · refine step_norm9 rfl _ _ (norm (p.take m)).length (fun A0 c0 w0 => w0.ownsRow wd2.heap.size 5 1 (.slice A0 (norm (p.take m)).length c0) (norm (p.take m)).length ((norm (p.take m)).map bv) ∧ Below wd2.heap.size wd2 w0) rfl rfl (NMH.out _ HB.out) ?_
              intro A6 c6 wd3 hres
              obtain ⟨hown6, hbel⟩ := hres
              have HNE : Hid (∀ b o, norm (p.take m) ≠ [] → A6 = some ⟨b, o, none⟩ → b ≠ g) := fun b o hne hA => by
                obtain ⟨g6, hA6, hge, _⟩ := own_addr hown6 (List.length_pos_iff.2 hne)
                have := (own_some HMK.out).2
                rw [hA] at hA6
                injection hA6 with e1
                injection e1 with e1 _
                omega
              refine hK _ _ ?_
              clear hK K
              simp only [Act.put, List.setIfInBounds_toArray, List.set_cons_zero, List.set_cons_succ]
              replace HB := Lib.hid (HB.out.trans (hbel.mono HB.out.size))
              replace HBB := Lib.hid (HBB.out.below hbel)
              replace HAA := Lib.hid (HAA.out.below hbel)
              replace HMK := Lib.hid (own_below HMK.out hbel)
              have HCN := Lib.hid (own_sl hown6)
              clear hown6 hbel
              have y1 := HAA.out.cell 0
              have y2 := HBB.out.cell 0
              have z1 := HAA.out.frozen 0
              have z2 := HBB.out.frozen 0
              simp only [List.getElem?_toArray, List.getElem?_cons_zero] at y1 y2
              have hba := hab.symm
              refine wpAny_ready (rs := [12]) (by kernel_rfl) (by simp) ?_
              refine AllReady.cons (i := 12) (o := ⟨none, _, _, _, _, _⟩) rfl (fun K hK => ?_) AllReady.nil
              go_simp
              refine hK _ _ ?_
              clear hK K
              try simp only [Act.put, List.setIfInBounds_toArray, List.set_cons_zero, List.set_cons_succ]
              refine wpAny_ready (rs := [13]) (by kernel_rfl) (by simp) ?_
              refine AllReady.cons (i := 13) (o := ⟨none, _, _, _, _, _⟩) rfl (fun K hK => ?_) AllReady.nil
              go_simp
              refine hK _ _ ?_
              clear hK K
              try simp only [Act.put, List.setIfInBounds_toArray, List.set_cons_zero, List.set_cons_succ]
              refine wpAny_done (by kernel_rfl) ?_ _
              go_wp2_with fail
              go_meet
              exact cut8 HB.out HMK.out HCN.out HAA.out HBB.out hqa hqb hab HNE.out
          · refine step_norm9 rfl _ _ (norm (p.take m)).length (fun A0 c0 w0 => w0.ownsRow wd1.heap.size 5 1 (.slice A0 (norm (p.take m)).length c0) (norm (p.take m)).length ((norm (p.take m)).map bv) ∧ Below wd1.heap.size wd1 w0) rfl rfl (NMH.out _ HB.out) ?_
            intro A6 c6 wd2 hres
            obtain ⟨hown6, hbel⟩ := hres
            refine hK _ _ ?_
            clear hK K
            simp only [Act.put, List.setIfInBounds_toArray, List.set_cons_zero, List.set_cons_succ]
            replace HB := Lib.hid (HB.out.trans (hbel.mono HB.out.size))
            replace HBB := Lib.hid (HBB.out.below hbel)
            replace HAA := Lib.hid (HAA.out.below hbel)
            have HCN := Lib.hid (own_sl hown6)
            clear hown6 hbel
            refine wpAny_ready (rs := [2]) (by kernel_rfl) (by simp) ?_
            refine AllReady.cons (i := 2) (o := ⟨some 51, _, _, _, _, _⟩) rfl (fun K hK => ?_) (AllReady.nil)
            · refine step_make9 rfl _ _ rfl .i64 .i64 ((m : Int) + 1) ((m : Int) + 1) (m + 1) w4.heap.size rfl rfl HM1.out HM1.out (by omega) HB.out.size ?_
              intro g wd3 hg9 hown hbel
              have HNE : Hid (∀ b o, norm (p.take m) ≠ [] → A6 = some ⟨b, o, none⟩ → b ≠ g) := fun b o hne hA => by
                obtain ⟨b', o', hA', hlt, _⟩ := Bs.at' HCN.out (List.length_pos_iff.2 hne)
                rw [hA] at hA'
                injection hA' with e1
                injection e1 with e1 _
                omega
              refine hK _ _ ?_
              clear hK K
              simp only [Act.put, List.setIfInBounds_toArray, List.set_cons_zero, List.set_cons_succ]
              replace HB := Lib.hid (HB.out.trans (hbel.mono HB.out.size))
              replace HBB := Lib.hid (HBB.out.below hbel)
              replace HAA := Lib.hid (HAA.out.below hbel)
              replace HCN := Lib.hid (Sl.below HCN.out hbel)
              have HMK := Lib.hid hown
              clear hown hbel hg9
              have y1 := HAA.out.cell 0
              have y2 := HBB.out.cell 0
              have z1 := HAA.out.frozen 0
              have z2 := HBB.out.frozen 0
              simp only [List.getElem?_toArray, List.getElem?_cons_zero] at y1 y2
              have hba := hab.symm
              refine wpAny_ready (rs := [12]) (by kernel_rfl) (by simp) ?_
              refine AllReady.cons (i := 12) (o := ⟨none, _, _, _, _, _⟩) rfl (fun K hK => ?_) AllReady.nil
              go_simp
              refine hK _ _ ?_
              clear hK K
              try simp only [Act.put, List.setIfInBounds_toArray, List.set_cons_zero, List.set_cons_succ]
              refine wpAny_ready (rs := [13]) (by kernel_rfl) (by simp) ?_
              refine AllReady.cons (i := 13) (o := ⟨none, _, _, _, _, _⟩) rfl (fun K hK => ?_) AllReady.nil
              go_simp
              refine hK _ _ ?_
              clear hK K
              try simp only [Act.put, List.setIfInBounds_toArray, List.set_cons_zero, List.set_cons_succ]
              refine wpAny_done (by kernel_rfl) ?_ _
              go_wp2_with fail
              go_meet
              exact cut8 HB.out HMK.out HCN.out HAA.out HBB.out hqa hqb hab HNE.out
    case rest =>
    obtain ⟨q1, q2, g, Ah, ch, rfl, rfl, hne, h1, h2, b1, b2, ho, hH, hb, hn⟩ := hcut
    have y1 := b1.cell 0
    have y2 := b2.cell 0
    simp only [List.getElem?_toArray, List.getElem?_cons_zero] at y1 y2
    have y3 := ho.cellAt m (by omega)
    rw [getElem?_bv (by simp)] at y3
    have z3 := ho.frozenAt m
    have KE0 := Lib.hid (Ke.init K4.out.gf K4.out.k0 hne h1 h2 b1 b2 ho hH hb hn)
    have EU0 := Lib.hid (Eu.start p m e HNP.out)
    have hmm : (m : Int) < ((m + 1 : Nat) : Int) := by omega
    clear b1 b2 ho hH hb hn h1 h2 hne PN TK
    go_wp2
    go_step3
    go_wp2
    go_loopg [19] (m + 1) (fun gk v wr => ∃ lo hi bb aa : Row, gk + bb.2.2.length = m + 2 ∧ Ke w4 wr fb w.heap.size q1 q2 (wc.heap.size + 2) (wc.heap.size + 1) lo hi bb aa ∧ Eu (cf p) m e lo.2.2 hi.2.2 aa.2.2 bb.2.2)
    case atStart => exact ⟨_, _, _, _, rfl, KE0.out, EU0.out⟩
    case round =>
      clear KE0 EU0 y1 y2 y3 z3
      obtain ⟨lo, hi, bb, aa, hgk, hke, heu⟩ := hrel
      have K := Lib.hid hke
      have EU := Lib.hid heu
      clear hke heu
      obtain ⟨t, ht⟩ : ∃ t, bb.2.2.length = t + 1 := ⟨bb.2.2.length - 1, by have := EU.out.al; omega⟩
      obtain ⟨bq, oq, hbq, _, hcq⟩ := Bs.at' K.out.s3 (by omega)
      have y9 := hcq t (by omega)
      obtain ⟨yb, hyb⟩ : ∃ y, bb.2.1 = y := ⟨_, rfl⟩
      have hvb : rowV bb = .slice (some ⟨bq, oq, none⟩) (t + 1 : Nat) yb := by unfold rowV; rw [ht, hbq, hyb]
      obtain ⟨Xh, nh, yh, hvh, hnh⟩ : ∃ A n c, rowV hi = .slice A n c ∧ n = hi.2.2.length := ⟨_, _, _, rfl, rfl⟩
      obtain ⟨c0, _, c2, c3, _, _, _, z3, _⟩ := K.out.cells
      unfold fp at c0
      rw [hvh] at c2
      rw [hvb] at c3
      have HT := Lib.hid ht
      have HVB := Lib.hid hvb
      have HNH := Lib.hid hnh
      have HBQ := Lib.hid hbq
      have HYB := Lib.hid hyb
      have htm : t ≤ m := by have := EU.out.deg; have := EU.out.lt; omega
      have et : ((t + 1 : Nat) : Int) - 1 = (t : Int) := by omega
      clear hcq hbq hvb hvh hyb hnh ht
      by_cases hmany : m < 2 * t + e
      · have d1 : (m : Int) < 2 * (t : Int) + (e : Int) := by omega
        have KM : Hid (KeyMany p m e) := fun t' h' => EU.out.many (by rw [HT.out]; omega) t' h'
        go_wp2
        (try rw [Exit.noGoto_ret])
        go_ret3
        exact MANY.out _ _ (K4.out.bel.trans (K.out.bel.mono K4.out.bel.size)) KM.out rfl
      · have d1 : ¬ (m : Int) < 2 * (t : Int) + (e : Int) := by omega
        by_cases hstop : nh ≤ e + t
        · have d2 : (nh : Int) ≤ (e : Int) + (t : Int) := by omega
          have htop : bb.2.2.getD t 0 ≠ 0 := by have := top_ne EU.out.nb (by rw [HT.out]; omega); rwa [HT.out, Nat.add_sub_cancel] at this
          obtain ⟨x, hx⟩ : ∃ x, bb.2.2.getD t 0 = x := ⟨_, rfl⟩
          rw [hx] at y9 htop
          have HX := Lib.hid htop
          have LM : Hid ((mon bb.2.2).length = t + 1) := by show _ = _; rw [length_mon EU.out.nb (by rw [HT.out]; omega), HT.out]
          have ME : Hid (norm (pmul bb.2.2 [F.inv x]) = mon bb.2.2) := by show _ = _; unfold mon; rw [HT.out, Nat.add_sub_cancel, hx]
          have MB : Hid (∀ A6 w' lo' hi' aa', Ke w4 w' fb w.heap.size q1 q2 (wc.heap.size + 2) (wc.heap.size + 1) lo' hi' bb aa' → Bs w' A6 1 [F.inv x] → Calls Try.prog 18 #[.pointer (some ⟨fb, 0, none⟩), .slice (some ⟨bq, oq, none⟩) (t + 1 : Nat) yb, .slice A6 1 1] w' fun ed w'' => ∃ A' c', ed = .returned (.slice A' (t + 1 : Nat) c') ∧ Bs w'' A' c' (mon bb.2.2) ∧ Below w'.heap.size w' w'') := fun A6 w' lo' hi' aa' k h => by
            have h3 := k.s3
            rw [HBQ.out, HYB.out] at h3
            have := poly_mul fb (some ⟨bq, oq, none⟩) yb bb.2.2 A6 1 [F.inv x] w' k.gf h3 h (by rw [HT.out]; omega) (by simp)
            rw [HT.out, ME.out, LM.out] at this
            exact this.mono fun ed w'' ⟨A', c', h, hm⟩ => ⟨A', c', h, hm.bs, hm.bel⟩
          have MA : Hid (∀ A7 c7 w' lo' hi' bb' aa', Ke w4 w' fb w.heap.size q1 q2 (wc.heap.size + 2) (wc.heap.size + 1) lo' hi' bb' aa' → Bs w' A7 c7 (mon bb.2.2) → Calls Try.prog 18 #[.pointer (some ⟨fb, 0, none⟩), .slice A7 (t + 1 : Nat) c7, .slice A5 p.length c5] w' fun ed w'' => ∃ A' c', ed = .returned (.slice A' (norm (pmul (mon bb.2.2) p)).length c') ∧ Bs w'' A' c' (norm (pmul (mon bb.2.2) p)) ∧ Below w'.heap.size w' w'') := fun A7 c7 w' lo' hi' bb' aa' k h => by
            have := poly_mul fb A7 c7 (mon bb.2.2) A5 c5 p w' k.gf h (HP.out.below k.bel) (by rw [LM.out]; omega) (by omega)
            rw [LM.out] at this
            exact this.mono fun ed w'' ⟨A', c', h, hm⟩ => ⟨A', c', h, hm.bs, hm.bel⟩
          have KO : Hid (∀ o, o = (norm (pmul (mon bb.2.2) p)).drop m → KeyOk p m e (mon bb.2.2) o) := fun o ho => by
            have h2 : 2 * (bb.2.2.length - 1) + e ≤ m := by rw [HT.out]; omega
            obtain ⟨k1, k2, k3⟩ := EU.out.stop (lim_cf p) (by rw [HT.out, ← HNH.out]; omega) h2
            rw [HT.out, Nat.add_sub_cancel] at k1 k2 k3
            exact ⟨t, by omega, k3, k1, k2, ho⟩
          have all_le : (norm (pmul (mon bb.2.2) p)).length ≤ 100000 := by
            have h1 := length_norm_le (pmul (mon bb.2.2) p)
            have h2 := length_pmul_le' (mon bb.2.2) p
            rw [LM.out] at h2
            omega
          have n03 : w.heap.size ≠ wc.heap.size + 2 := K.out.zero.2.2.1
          have n30 := n03.symm
          have ht1 : (t : Int) < ((t + 1 : Nat) : Int) := by omega
          have RV7 : Hid (∀ A7 c7, rowV (A7, c7, mon bb.2.2) = .slice A7 (t + 1 : Nat) c7) := fun A7 c7 => by unfold rowV; rw [LM.out]
          clear hx ME
          go_wp2
          go_quiet ((go_at_call 31; exact Calls.quiet_of (gf_inv_nz _ _ HX.out _ (K.out.gf.drewN _))))
          generalize hiv : F.inv x = iv at *
          clear hiv
          clear y9
          go_wp2_with (first
            | (go_at_call 18; (with_reducible refine (MB.out _ _ lo hi aa ?_ ?_).mono ?_); (exact (K.out.drewN _).alloc _); (exact lit_bs rfl rfl rfl (by decide)); rintro ed w6 ⟨A7, c7, rfl, hb7, hbel⟩; have K6 := Lib.hid (((K.out.drewN _).alloc _).below hbel); have B6 := Lib.hid hb7; clear hb7 hbel; clear c0 c2 c3 z3; obtain ⟨c0, _, _, c3, _, _, _, z3, _⟩ := K6.out.cells; unfold fp at c0; rw [HVB.out] at c3; have K7 := Lib.hid (K6.out.put3 (r := (A7, c7, mon bb.2.2)) B6.out); have B7 := Lib.hid (B6.out.apart K6.out.k3 (rowV (A7, c7, mon bb.2.2))); rw [RV7.out A7 c7] at K7 B7)
            | (go_at_call 18; (with_reducible refine (MA.out _ _ _ lo hi (A7, c7, mon bb.2.2) aa K7.out B7.out).mono ?_); rintro ed w8 ⟨A9, c9, rfl, hb9, hbel⟩; have K8 := Lib.hid (K7.out.below hbel); have B8 := Lib.hid (Sl.below B7.out hbel); have B9 := Lib.hid hb9; clear hb9 hbel; clear c0 c3 z3; obtain ⟨_, _, _, c3, _, _, _, _, _⟩ := K8.out.cells; rw [RV7.out A7 c7] at c3))
          obtain ⟨al, hal⟩ : ∃ al, norm (pmul (mon bb.2.2) p) = al := ⟨_, rfl⟩
          rw [hal] at B9 KO all_le ⊢
          have ALN : Hid (norm al = al) := by show _ = _; rw [← hal]; exact norm_norm _
          clear hal
          obtain ⟨k0, hk0⟩ : ∃ k0, k0 = min al.length m := ⟨_, rfl⟩
          have hk1 : (if m < al.length then (m : Int) else (al.length : Int)) = (k0 : Int) := by
            rcases Nat.lt_or_ge m al.length with h | h
            · rw [if_pos h]; omega
            · rw [if_neg (by omega)]; omega
          have hcl := B9.out.len
          have hk2 : (k0 : Int) ≤ (al.length : Int) := by omega
          have hk3 : k0 ≤ al.length := by omega
          have DR : Hid (norm (al.drop k0) = al.drop m) := by
            have e9 : al.drop k0 = al.drop m := by
              rcases Nat.le_total al.length m with h | h
              · rw [hk0, Nat.min_eq_left h, List.drop_length, List.drop_eq_nil_of_le h]
              · rw [hk0, Nat.min_eq_right h]
            show _ = _
            rw [e9]
            refine norm_self_of fun hne => ?_
            have hlt : m < al.length := Nat.lt_of_not_le fun h => hne (List.drop_eq_nil_of_le h)
            have h9 := norm_top (p := al) (by rw [ALN.out]; intro h; rw [h] at hlt; simp at hlt)
            rw [ALN.out, at_cf] at h9
            rw [at_cf, List.length_drop, List.getD_eq_getElem?_getD, List.getElem?_drop, ← List.getD_eq_getElem?_getD, show m + (al.length - m - 1) = al.length - 1 by omega]
            exact h9
          obtain ⟨AR, har⟩ : ∃ AR, rowA A9 c9 k0 = AR := ⟨_, rfl⟩
          have hif : (if c9 = k0 then A9 else Option.map (fun x => x.add k0) A9) = AR := har
          obtain ⟨nd, hnd⟩ : ∃ nd, al.length - k0 = nd := ⟨_, rfl⟩
          have D9 : Hid (Bs w8 AR (c9 - k0) (al.drop k0)) := by have := B9.out.dropA hk3; rw [har] at this; exact this
          have ND : Hid (∀ w', Below w8.heap.size w8 w' → Calls Try.prog 17 #[.slice AR nd (c9 - k0)] w' fun ed w'' => ∃ A' c', ed = .returned (.slice A' (al.drop m).length c') ∧ Bs w'' A' c' (al.drop m) ∧ Below w'.heap.size w' w'') := fun w' hb => by
            have := poly_norm AR (c9 - k0) (al.drop k0) w' (D9.out.below hb) (by rw [List.length_drop]; omega)
            rw [List.length_drop, hnd, DR.out] at this
            exact this.mono fun ed w'' ⟨A', c', he, hm⟩ => ⟨A', c', he, hm.bs, hm.bel⟩
          have KD := Lib.hid (KO.out _ rfl)
          clear hk0 har DR KO
          generalize al.drop m = o at *
          generalize al.length = aln at *
          go_region_law (go_simp; go_at_call 17; (with_reducible refine (ND.out _ ?_).mono ?_); (first | exact below_drew0 w8 1 | exact Below.refl _ _); rintro ed wn ⟨A10, c10, rfl, hbn, hbel⟩; have HBN := Lib.hid hbn; have HBL := Lib.hid ((below_drew0 w8 1).trans hbel); have K10 := Lib.hid (K8.out.below HBL.out); clear c3; obtain ⟨_, _, _, c3, _, _, _, _, _⟩ := K10.out.cells; rw [RV7.out A7 c7] at c3; clear hbn hbel)
          all_goals
            go_wp2
            (try rw [Exit.noGoto_ret])
            go_ret3
            have hfin := OK.out (mon bb.2.2) o A7 c7 A10 c10 wn (K4.out.bel.trans (K10.out.bel.mono K4.out.bel.size)) (B8.out.below HBL.out) HBN.out KD.out
            rw [LM.out] at hfin
            exact hfin
        · have d2 : ¬ (nh : Int) ≤ (e : Int) + (t : Int) := by omega
          have hgo : e + bb.2.2.length ≤ hi.2.2.length := by rw [HT.out, ← HNH.out]; omega
          have ST := Lib.hid (key_step (cf p) m e w4 wr fb w.heap.size q1 q2 (wc.heap.size + 2) (wc.heap.size + 1) lo hi bb aa K.out EU.out hgo (by omega))
          go_wp2_with (go_at_call 28; (with_reducible refine ST.out.mono ?_); rintro ed w5 ⟨rfl, r', b', hk5, heu5⟩; have K5 := Lib.hid hk5; have EU5 := Lib.hid heu5; clear hk5 heu5)
          have hm1 := EU5.out.al
          have hm2 := EU5.out.deg
          have hm3 := EU5.out.lt
          go_roundg (m + 2 - b'.2.2.length)
          case measure => omega
          case rel => exact ⟨hi, r', b', bb, by omega, K5.out, EU5.out⟩
end Go.Proofs.Ytmcamamfpefffaa
