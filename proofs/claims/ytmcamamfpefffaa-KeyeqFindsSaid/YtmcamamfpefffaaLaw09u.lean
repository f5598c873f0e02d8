/- aumbrylaw09.unlike and sums, walked. -/
import Derived.Test.YtmcamamfpefffaaLaw09
import Derived.Test.YtmcamamfpefffaaKfin
namespace Go.Proofs.Ytmcamamfpefffaa
open Go.RowKit
set_option linter.unusedVariables false
set_option linter.unusedSimpArgs false
/-- points that are unlike, and none of others -/
def Unl (a b : List F) (i : Nat) : Prop := (∀ p q, q < p → p < i → a.getD p 0 ≠ a.getD q 0) ∧ ∀ p q, p < i → q < b.length → a.getD p 0 ≠ b.getD q 0
theorem Unl.nodup {a b : List F} (h : Unl a b a.length) : a.Nodup := List.pairwise_iff_getElem.2 fun i j hi hj hij => by
  have := h.1 j i hij hj
  rw [List.getD_eq_getElem?_getD, List.getElem?_eq_getElem hj, List.getD_eq_getElem?_getD, List.getElem?_eq_getElem hi] at this
  exact fun e => this e.symm
theorem Unl.apart {a b : List F} (h : Unl a b a.length) : ∀ x, x ∈ a → ∀ y, y ∈ b → x ≠ y := fun x hx y hy => by
  obtain ⟨i, hi, rfl⟩ := List.getElem_of_mem hx
  obtain ⟨j, hj, rfl⟩ := List.getElem_of_mem hy
  have := h.2 i j hi hj
  rw [List.getD_eq_getElem?_getD, List.getElem?_eq_getElem hi, List.getD_eq_getElem?_getD, List.getElem?_eq_getElem hj] at this
  exact this
def UnR (w : World) (a b : List F) (e : Ending) (w' : World) : Prop := ∃ v : Bool, e = .returned (.bool v) ∧ (v = true ↔ Unl a b a.length) ∧ Below w.heap.size w w'
theorem UnR.no {w w' : World} {a b : List F} (h : ¬ Unl a b a.length) (hb : Below w.heap.size w w') : UnR w a b (.returned (.bool false)) w' := ⟨false, rfl, ⟨(fun e => by cases e), fun e => absurd e h⟩, hb⟩
theorem UnR.yes {w w' : World} {a b : List F} (h : Unl a b a.length) (hb : Below w.heap.size w w') : UnR w a b (.returned (.bool true)) w' := ⟨true, rfl, ⟨fun _ => h, fun _ => rfl⟩, hb⟩
set_option maxRecDepth 1000000 in
set_option maxHeartbeats 4000000 in
theorem unlike_any (A1 : Option Addr) (c1 : Nat) (a : List F) (A2 : Option Addr) (c2 : Nat) (b : List F) (w : World) (ha : Bs w A1 c1 a) (hb : Bs w A2 c2 b) (h1 : a.length ≤ 1000) (h2 : b.length ≤ 1000) :
    Calls Try.prog 21 #[.slice A1 a.length c1, .slice A2 b.length c2] w (UnR w a b) := by
  have PA : Hid (∀ i, i < a.length → ∀ w', Below w.heap.size w w' → ∃ b2 o2, A1 = some ⟨b2, o2, none⟩ ∧ ∀ i, i < a.length → w'.cell? ⟨b2, o2 + i, none⟩ = some (.int .u8 ((a.getD i 0).n : Int))) := fun i hi w' hb => by
    obtain ⟨b2, o2, hA, _, hc⟩ := Bs.at' (Sl.below ha hb) (by omega)
    exact ⟨b2, o2, hA, hc⟩
  have PB : Hid (∀ i, i < b.length → ∀ w', Below w.heap.size w w' → ∃ b2 o2, A2 = some ⟨b2, o2, none⟩ ∧ ∀ i, i < b.length → w'.cell? ⟨b2, o2 + i, none⟩ = some (.int .u8 ((b.getD i 0).n : Int))) := fun i hi w' hb' => by
    obtain ⟨b2, o2, hA, _, hc⟩ := Bs.at' (Sl.below hb hb') (by omega)
    exact ⟨b2, o2, hA, hc⟩
  have NO : Hid (∀ w', ¬ Unl a b a.length → Below w.heap.size w w' → UnR w a b (.returned (.bool false)) w') := fun w' h hb => UnR.no h hb
  have YES : Hid (∀ w', Unl a b a.length → Below w.heap.size w w' → UnR w a b (.returned (.bool true)) w') := fun w' h hb => UnR.yes h hb
  clear ha hb
  obtain ⟨n, hn⟩ : ∃ n, a.length = n := ⟨_, rfl⟩
  obtain ⟨m, hm⟩ : ∃ m, b.length = m := ⟨_, rfl⟩
  have HM := Lib.hid hm
  rw [hn] at PA NO YES h1 ⊢
  rw [hm] at PB h2 ⊢
  clear hn hm
  go_enter Try.func21, Try.ntmps21
  go_wp2
  go_loopw [5] (fun v wr => ∃ i : Nat, i ≤ n ∧ v = .int .i64 i ∧ Hid (Unl a b i) ∧ Below w.heap.size w wr) (fun v _ => n - (intOf v).toNat)
  case atStart => exact ⟨0, Nat.zero_le _, rfl, ⟨fun p q _ h => absurd h (Nat.not_lt_zero _), fun p q h => absurd h (Nat.not_lt_zero _)⟩, Below.refl _ _⟩
  case round =>
    obtain ⟨i, hi, rfl, hun, hbel⟩ := hrel
    have HB := Lib.hid hbel
    clear hbel
    by_cases hlt : i < n
    · have hit : (i : Int) < (n : Int) := by omega
      go_wp2
      go_loopw [6] (fun v wj => ∃ k : Nat, k ≤ i ∧ v = .int .i64 k ∧ Hid (∀ q, q < k → a.getD i 0 ≠ a.getD q 0) ∧ Below w.heap.size w wj) (fun v _ => i - (intOf v).toNat)
      case atStart => exact ⟨0, Nat.zero_le _, rfl, fun q h => absurd h (Nat.not_lt_zero _), HB.out⟩
      case round =>
        rename World => wj
        clear HB
        obtain ⟨k, hk, rfl, hq, hbel⟩ := hrel
        have HB := Lib.hid hbel
        by_cases hlk : k < i
        · have hkt : (k : Int) < (i : Int) := by omega
          have hkn : (k : Int) < (n : Int) := by omega
          obtain ⟨b2, o2, hA, hc⟩ := PA.out i hlt wj hbel
          subst hA
          have y1 := hc i hlt
          have y2 := hc k (by omega)
          clear hc hbel
          by_cases he : a.getD i 0 = a.getD k 0
          · have NU : Hid (¬ Unl a b n) := fun h => h.1 i k hlk hlt he
            have e9 := beq_n he
            clear he
            generalize a.getD i 0 = x at *
            generalize a.getD k 0 = y at *
            go_wp2
            go_quiet (fail)
            go_wp2
            go_ret
            exact NO.out _ NU.out (below_drewN HB.out _)
          · have HQ : Hid (∀ q, q < k + 1 → a.getD i 0 ≠ a.getD q 0) := fun q h => (Nat.lt_or_ge q k).elim (hq.out q) fun h2 => by rw [show q = k by omega]; exact he
            have e9 := bne_n he
            clear he hq
            generalize hx : a.getD i 0 = x at *
            generalize hy : a.getD k 0 = y at *
            clear hx hy
            go_wp2
            go_quiet (fail)
            go_wp2
            go_roundw
            case rel => exact ⟨k + 1, by omega, by go_num, HQ, below_drewN HB.out _⟩
            case measure => simp [intOf]; omega
        · obtain rfl : i = k := by omega
          have hkt : ¬ (i : Int) < (i : Int) := by omega
          have HQ1 := hq
          clear hq hbel
          go_wp2
          go_loopw [7] (fun v wk => ∃ k : Nat, k ≤ m ∧ v = .int .i64 k ∧ Hid (∀ q, q < k → a.getD i 0 ≠ b.getD q 0) ∧ Below w.heap.size w wk) (fun v _ => m - (intOf v).toNat)
          case atStart => exact ⟨0, Nat.zero_le _, rfl, fun q h => absurd h (Nat.not_lt_zero _), HB.out⟩
          case round =>
            rename World => wk
            clear HB
            obtain ⟨k, hk, rfl, hq, hbel⟩ := hrel
            have HB := Lib.hid hbel
            by_cases hlk : k < m
            · have hkt : (k : Int) < (m : Int) := by omega
              obtain ⟨b2, o2, hA, hc⟩ := PA.out i hlt wk hbel
              subst hA
              have y1 := hc i hlt
              obtain ⟨b3, o3, hA, hc3⟩ := PB.out k hlk wk hbel
              subst hA
              have y2 := hc3 k hlk
              clear hc hc3 hbel
              by_cases he : a.getD i 0 = b.getD k 0
              · have NU : Hid (¬ Unl a b n) := fun h => h.2 i k hlt (by rw [HM.out]; exact hlk) he
                have e9 := beq_n he
                clear he
                generalize a.getD i 0 = x at *
                generalize b.getD k 0 = y at *
                go_wp2
                go_quiet (fail)
                go_wp2
                go_ret
                exact NO.out _ NU.out (below_drewN HB.out _)
              · have HQ : Hid (∀ q, q < k + 1 → a.getD i 0 ≠ b.getD q 0) := fun q h => (Nat.lt_or_ge q k).elim (hq.out q) fun h2 => by rw [show q = k by omega]; exact he
                have e9 := bne_n he
                clear he hq HQ1
                generalize hx : a.getD i 0 = x at *
                generalize hy : b.getD k 0 = y at *
                clear hx hy
                go_wp2
                go_quiet (fail)
                go_wp2
                go_roundw
                case rel => exact ⟨k + 1, by omega, by go_num, HQ, below_drewN HB.out _⟩
                case measure => simp [intOf]; omega
            · obtain rfl : m = k := by omega
              have hkt : ¬ (m : Int) < (m : Int) := by omega
              have HN : Hid (Unl a b (i + 1)) := by
                refine ⟨fun p q h1 h2 => ?_, fun p q h1 h2 => ?_⟩
                · by_cases e : p = i
                  · subst e; exact HQ1.out q h1
                  · exact hun.out.1 p q h1 (by omega)
                · by_cases e : p = i
                  · subst e; exact hq.out q (by rw [← HM.out]; exact h2)
                  · exact hun.out.2 p q (by omega) h2
              clear hq HQ1 hbel
              go_wp2
              go_roundw
              case rel => exact ⟨i + 1, by omega, by go_num, HN, HB.out⟩
              case measure => simp [intOf]; omega
    · obtain rfl : n = i := by omega
      have hit : ¬ (n : Int) < (n : Int) := by omega
      go_wp2
      go_ret
      exact YES.out _ hun.out HB.out
/-- syndromes while they are summed: of i points, and of the next one the first l numbers -/
def synT (m : Nat) (ps ys : List F) (i l : Nat) : List F := tab m fun x => if x < l then sumF (i + 1) (fun j => ys.getD j 0 * (ps.getD j 0).pow x) else sumF i fun j => ys.getD j 0 * (ps.getD j 0).pow x
theorem length_synT (m : Nat) (ps ys : List F) (i l : Nat) : (synT m ps ys i l).length = m := length_tab _ _
theorem synT_zero (m : Nat) (ps ys : List F) : List.replicate m (0 : F) = synT m ps ys 0 0 := by
  refine ext_getD (by rw [length_synT, List.length_replicate]) fun x hx => ?_
  rw [List.length_replicate] at hx
  rw [synT, getD_tab _ hx, if_neg (by omega), List.getD_eq_getElem?_getD, List.getElem?_replicate, if_pos hx]; rfl
theorem synT_next (m : Nat) (ps ys : List F) (i : Nat) : synT m ps ys i m = synT m ps ys (i + 1) 0 := tab_congr fun x hx => by rw [if_pos hx, if_neg (by omega)]
theorem synT_all (m : Nat) (ps ys : List F) : synT m ps ys ps.length 0 = synN m ps ys := by
  refine ext_getD (by rw [length_synT, length_synN]) fun x hx => ?_
  rw [length_synT] at hx
  rw [synT, getD_tab _ hx, if_neg (by omega), synN_at _ _ _ _ hx]
theorem synT_get {m : Nat} (ps ys : List F) (i : Nat) {l : Nat} (h : l < m) : (synT m ps ys i l).getD l 0 = sumF i fun j => ys.getD j 0 * (ps.getD j 0).pow l := by
  rw [synT, getD_tab _ h, if_neg (by omega)]
theorem synT_set {m : Nat} (ps ys : List F) (i : Nat) {l : Nat} (h : l < m) : (synT m ps ys i l).set l ((sumF i fun j => ys.getD j 0 * (ps.getD j 0).pow l) + ys.getD i 0 * (ps.getD i 0).pow l) = synT m ps ys i (l + 1) := by
  unfold synT
  rw [set_tab]
  refine tab_congr fun x _ => ?_
  by_cases e : x = l
  · subst e; rw [if_pos rfl, if_pos (by omega), sumF_succ]
  · rw [if_neg e]
    by_cases e2 : x < l
    · rw [if_pos e2, if_pos (by omega)]
    · rw [if_neg e2, if_neg (by omega)]
set_option maxRecDepth 1000000 in
set_option maxHeartbeats 4000000 in
theorem sums_any (fb m : Nat) (A1 : Option Addr) (c1 : Nat) (ps : List F) (A2 : Option Addr) (c2 : Nat) (ys : List F) (w : World) (hg : GfAt w fb) (ha : Bs w A1 c1 ps) (hb : Bs w A2 c2 ys) (hl : ys.length = ps.length) (h1 : ps.length ≤ 1000) (hm : m ≤ 1000) :
    Calls Try.prog 22 #[fp fb, .int .i64 m, .slice A1 ps.length c1, .slice A2 ps.length c2] w fun e w' => ∃ A' c', e = .returned (.slice A' m c') ∧ Bs w' A' c' (synN m ps ys) ∧ Below w.heap.size w w' := by
  have PA : Hid (∀ i, i < ps.length → ∀ w', Below w.heap.size w w' → ∃ b2 o2, A1 = some ⟨b2, o2, none⟩ ∧ w'.cell? ⟨b2, o2 + i, none⟩ = some (.int .u8 ((ps.getD i 0).n : Int))) := fun i hi w' hb => by
    obtain ⟨b2, o2, hA, _, hc⟩ := Bs.at' (Sl.below ha hb) (by omega)
    exact ⟨b2, o2, hA, hc i hi⟩
  have PB : Hid (∀ i, i < ps.length → ∀ w', Below w.heap.size w w' → ∃ b2 o2, A2 = some ⟨b2, o2, none⟩ ∧ w'.cell? ⟨b2, o2 + i, none⟩ = some (.int .u8 ((ys.getD i 0).n : Int))) := fun i hi w' hb' => by
    obtain ⟨b2, o2, hA, _, hc⟩ := Bs.at' (Sl.below hb hb') (by omega)
    exact ⟨b2, o2, hA, hc i (by omega)⟩
  have HG := Lib.hid hg
  have TZ := Lib.hid (synT_zero m ps ys)
  have TX : Hid (∀ i, synT m ps ys i m = synT m ps ys (i + 1) 0) := fun i => synT_next m ps ys i
  have TA := Lib.hid (synT_all m ps ys)
  have TG : Hid (∀ i l, l < m → (synT m ps ys i l).getD l 0 = sumF i fun j => ys.getD j 0 * (ps.getD j 0).pow l) := fun i l h => synT_get ps ys i h
  have TS : Hid (∀ i l, l < m → (synT m ps ys i l).set l ((sumF i fun j => ys.getD j 0 * (ps.getD j 0).pow l) + ys.getD i 0 * (ps.getD i 0).pow l) = synT m ps ys i (l + 1)) := fun i l h => synT_set ps ys i h
  have TL : Hid (∀ i l, (synT m ps ys i l).length = m) := fun i l => length_synT _ _ _ _ _
  clear ha hb hg hl
  unfold fp
  generalize synT m ps ys = sT at *
  obtain ⟨n, hn⟩ : ∃ n, ps.length = n := ⟨_, rfl⟩
  rw [hn] at PA PB TA h1 ⊢
  clear hn
  go_enter Try.func22, Try.ntmps22
  go_wp2_with (refine make_bytes _ rfl _ _ rfl .i64 .i64 (m : Int) (m : Int) m rfl rfl rfl rfl ?b ?_; (case b => omega); intro w3 ho3 hb3; have HO3 := Lib.hid ho3; have HB3 := Lib.hid hb3; clear ho3 hb3)
  go_loopw [10] (fun v wr => ∃ i : Nat, i ≤ n ∧ v = .int .i64 i ∧ wr.ownsRow w.heap.size 5 1 (.slice (some ⟨w.heap.size, 0, none⟩) m m) m ((sT i 0).map bv) ∧ Below w.heap.size w wr) (fun v _ => n - (intOf v).toNat)
  case atStart => exact ⟨0, Nat.zero_le _, rfl, by rw [← TZ.out]; exact HO3.out, HB3.out⟩
  case round =>
    clear HO3 HB3
    obtain ⟨i, hi, rfl, hown, hbel⟩ := hrel
    have HO := Lib.hid hown
    have HB := Lib.hid hbel
    by_cases hlt : i < n
    · have hit : (i : Int) < (n : Int) := by omega
      obtain ⟨b3, o3, hA, y3⟩ := PB.out i hlt wr hbel
      subst hA
      have P0 : Hid (ys.getD i 0 = ys.getD i 0 * (ps.getD i 0).pow 0) := by show _ = _; rw [F.pow_zero, F.mul_one]
      clear hown hbel
      have TGi : Hid (∀ l, l < m → (sT i l).getD l 0 = sumF i fun j => ys.getD j 0 * (ps.getD j 0).pow l) := fun l h => TG.out i l h
      have TSi : Hid (∀ l, l < m → (sT i l).set l ((sumF i fun j => ys.getD j 0 * (ps.getD j 0).pow l) + ys.getD i 0 * (ps.getD i 0).pow l) = sT i (l + 1)) := fun l h => TS.out i l h
      have PAi : Hid (∀ w', Below w.heap.size w w' → ∃ b2 o2, A1 = some ⟨b2, o2, none⟩ ∧ w'.cell? ⟨b2, o2 + i, none⟩ = some (.int .u8 ((ps.getD i 0).n : Int))) := PA.out i hlt
      have PW : Hid (∀ l, ys.getD i 0 * (ps.getD i 0).pow l * ps.getD i 0 = ys.getD i 0 * (ps.getD i 0).pow (l + 1)) := fun l => by rw [F.pow_succ, F.mul_assoc, F.mul_comm ((ps.getD i 0).pow l)]
      generalize hyv : ys.getD i 0 = yv at *
      clear hyv
      generalize hpv : ps.getD i 0 = pv at *
      clear hpv
      go_wp2
      go_loopw [11, 12] (fun x v wi => ∃ l : Nat, l ≤ m ∧ v = .int .i64 l ∧ x = .int .u8 ((yv * pv.pow l).n : Int) ∧ wi.ownsRow w.heap.size 5 1 (.slice (some ⟨w.heap.size, 0, none⟩) m m) m ((sT i l).map bv) ∧ Below w.heap.size w wi) (fun _ v _ => m - (intOf v).toNat)
      case atStart => exact ⟨0, Nat.zero_le _, rfl, by rw [← P0.out], HO.out, HB.out⟩
      case round =>
        rename World => wi
        clear HO HB P0 y3
        obtain ⟨l, hl, rfl, rfl, hown, hbel⟩ := hrel
        have HB := Lib.hid hbel
        by_cases hll : l < m
        · have hlt2 : (l : Int) < (m : Int) := by omega
          obtain ⟨b2, o2, hA, y2⟩ := PAi.out wi hbel
          subst hA
          have y1 := hown.cellAt l (by omega)
          rw [getElem?_bv (by rw [TL.out]; exact hll), TGi.out l hll] at y1
          have z1 := hown.frozenAt l
          have hst := (hown.stored l (bv ((sumF i fun j => ys.getD j 0 * (ps.getD j 0).pow l) + yv * pv.pow l))).1
          rw [map_set, TSi.out l hll] at hst
          have PWl := Lib.hid (PW.out l)
          have HS : Hid (∀ nd, ((wi.setCell ⟨w.heap.size, l, none⟩ (bv ((sumF i fun j => ys.getD j 0 * (ps.getD j 0).pow l) + yv * pv.pow l))).drewN nd).ownsRow w.heap.size 5 1 (.slice (some ⟨w.heap.size, 0, none⟩) m m) m ((sT i (l + 1)).map bv) ∧ Below w.heap.size w ((wi.setCell ⟨w.heap.size, l, none⟩ (bv ((sumF i fun j => ys.getD j 0 * (ps.getD j 0).pow l) + yv * pv.pow l))).drewN nd)) := fun nd => ⟨own_drewN hst nd, below_drewN (hbel.setCell (Nat.le_refl _) _) nd⟩
          have G1 : Hid (GfAt (wi.setCell ⟨w.heap.size, l, none⟩ (bv ((sumF i fun j => ys.getD j 0 * (ps.getD j 0).pow l) + yv * pv.pow l))) fb) := HG.out.below (hbel.setCell (Nat.le_refl _) _)
          obtain ⟨_, _, hA2, y2'⟩ := PAi.out _ (hbel.setCell (p := ⟨w.heap.size, l, none⟩) (Nat.le_refl _) (bv ((sumF i fun j => ys.getD j 0 * (ps.getD j 0).pow l) + yv * pv.pow l)))
          injection hA2 with hA2
          obtain ⟨rfl, rfl⟩ : b2 = _ ∧ o2 = _ := by injection hA2 with e1 e2; exact ⟨e1, e2⟩
          clear hown hst hbel hA2 y2
          generalize (sumF i fun j => ys.getD j 0 * (ps.getD j 0).pow l) = ac at *
          generalize yv * pv.pow l = xv at *
          have hxor := xor_n ac xv
          go_wp2_with (go_at_call 19; (with_reducible refine (gf_mul _ xv pv _ G1.out).mono ?_); rintro e w7 ⟨rfl, nd, rfl⟩)
          go_roundw
          case rel => exact ⟨l + 1, by omega, by go_num, by rw [← PWl.out], (HS.out nd).1, (HS.out nd).2⟩
          case measure => simp [intOf]; omega
        · obtain rfl : m = l := by omega
          have hlt2 : ¬ (m : Int) < (m : Int) := by omega
          rw [TX.out] at hown
          have HO := Lib.hid hown
          clear hown hbel
          go_wp2
          go_roundw
          case rel => exact ⟨i + 1, by omega, by go_num, HO.out, HB.out⟩
          case measure => simp [intOf]; omega
    · obtain rfl : n = i := by omega
      have hit : ¬ (n : Int) < (n : Int) := by omega
      rw [TA.out] at hown
      have HS := Lib.hid (own_sl hown)
      clear hown hbel
      go_wp2
      go_ret
      exact ⟨_, _, rfl, HS.out, HB.out⟩
end Go.Proofs.Ytmcamamfpefffaa
