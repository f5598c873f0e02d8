/- Layer 6: awake, BulkNames, BulkEncodes, BulkUpdates, walked. -/
import Derived.Test.YtbepadepepoilaaLsts
namespace Go.Proofs.Ytbepadepepoilaa
open Go.RowKit
set_option linter.unusedVariables false
set_option linter.unusedSimpArgs false
theorem short_le {ls : List (List F)} (h : (ls.all fun l => decide (l.length ≤ 100000)) = true) : ∀ l, l ∈ ls → l.length ≤ 100000 := fun l hl => by simpa using List.all_eq_true.1 h l hl
theorem EncCase.len {k m : Int} {ls L : List (List F)} {E : Int} (h : EncCase k m ls L E) (hn : ls.length ≤ 900) : L.length ≤ 900 := by
  rcases h with ⟨⟨h1, h2, h3⟩, ha, _, rfl⟩ | ⟨_, _, _, rfl⟩ | ⟨_, _, rfl⟩
  · have := ha.1
    rw [length_enc (k := k.toNat) (by omega)]; omega
  · exact Nat.zero_le _
  · exact Nat.zero_le _
theorem UpdCase.len {k m j : Int} {l1 l2 : List F} {ls L : List (List F)} {E : Int} (h : UpdCase k m j l1 l2 ls L E) (hn : ls.length ≤ 900) : L.length ≤ 900 := by
  rcases h with ⟨_, _, _, rfl⟩ | ⟨_, _, _, rfl⟩ | ⟨_, _, rfl⟩
  · unfold updR; rw [length_mapR, length_mapR]; exact hn
  · exact Nat.zero_le _
  · exact Nat.zero_le _
end Go.Proofs.Ytbepadepepoilaa
