/- bulk.Encode, where shards or numbers do not fit; bytes.Equal, slices.EqualFunc; bulk.Fits. -/
import Derived.Test.YtmkjplpnoohfnaaRowL
namespace Go.Proofs.Ytmkjplpnoohfnaa
open Go.RowKit
set_option linter.unusedVariables false
set_option linter.unusedSimpArgs false
set_option maxRecDepth 1000000 in
theorem bulk_encode_no (b k m : Nat) (A : Option Addr) (n c : Nat) (vs : List Value) (ls : List (List F)) (w : World) (hkm : okkm k m) (hg : GfAt w b) (ha : Sl w A c vs) (hb : Bss w vs ls) (hn : ls.length = n) (hm : n ≤ 1000) (hk : ¬ Alk ls k) :
    Calls Try.prog 71 #[fp b, .int .i64 k, .int .i64 m, .slice A n c] w fun e w' => e = .returned (.tuple #[.slice none 0 0, .int .i64 60]) ∧ Below w.heap.size w w' := by
  have CK := Lib.hid (bulk_checked_no b k m k A n c vs ls w hkm hg ha hb hn hm hk)
  clear hkm hg ha hb hn hm hk
  unfold fp at CK ⊢
  generalize m * k = mk at *
  go_enter Try.func71, Try.ntmps71
  go_wp2_with (go_at_call 109; (with_reducible refine CK.out.mono ?_); rintro e w1 ⟨Ap, cp, rfl, hb1⟩; have HB1 := Lib.hid hb1; clear hb1)
  go_ret2
  exact ⟨rfl, HB1.out.alloc HB1.out.size _⟩
set_option maxRecDepth 1000000 in
theorem bulk_encode_bad (b : Nat) (k m : Int) (A : Option Addr) (n c : Nat) (w : World) (hk : i64ok k) (hm : i64ok m) (hkm : ¬ okkm k m) :
    Calls Try.prog 71 #[fp b, .int .i64 k, .int .i64 m, .slice A n c] w fun e w' => e = .returned (.tuple #[.slice none 0 0, .int .i64 50]) ∧ Below w.heap.size w w' := by
  have CK := Lib.hid (bulk_checked_bad b k m k A n c w hk hm hkm)
  clear hk hm hkm
  unfold fp noMat at CK
  unfold fp
  go_enter Try.func71, Try.ntmps71
  go_wp2_with (go_at_call 109; (with_reducible refine CK.out.mono ?_); rintro e w1 ⟨rfl, hb1⟩; have HB1 := Lib.hid hb1; clear hb1)
  go_ret2
  exact ⟨rfl, HB1.out.alloc HB1.out.size _⟩
end Go.Proofs.Ytmkjplpnoohfnaa
