/- Bytes in memory, as lists: how a slice of bytes reads. -/
import Derived.Test.YtjpaljiielemgaaRows
import Derived.Test.YtjpaljiielemgaaPure
import Derived.WalkKit
import Derived.WalkSpells
import Derived.WalkLawsBesides
import Derived.Lib.Hide
import Derived.Deep.QuietTactic
import Derived.BigQuiet
namespace Go.Proofs.Ytjpaljiielemgaa
open Go.RowKit

/-- The slice value v reads as the bytes xs. -/
def Bytes (w : World) (v : Value) (xs : List UInt8) : Prop :=
  ∃ a cap, v = .slice a xs.length cap ∧ xs.length ≤ cap ∧ cap ≤ maxLen ∧
    (0 < xs.length → ∃ g off, a = some ⟨g, off, none⟩ ∧ ∀ j (h : j < xs.length), w.cell? ⟨g, off + j, none⟩ = some (.int .u8 (xs[j].toNat : Int)))

theorem Bytes.keep {w w' : World} {v : Value} {xs : List UInt8} (h : Bytes w v xs) (hb : Below w.heap.size w w') : Bytes w' v xs := by
  obtain ⟨a, cap, rfl, h1, h2, h3⟩ := h
  refine ⟨a, cap, rfl, h1, h2, fun h0 => ?_⟩
  obtain ⟨g, off, rfl, hc⟩ := h3 h0
  refine ⟨g, off, rfl, fun j hj => ?_⟩
  have h := hc j hj
  rw [hb.cell (p := ⟨g, off + j, none⟩) (World.block_lt_of_cell? w _ h)]
  exact h

end Go.Proofs.Ytjpaljiielemgaa
