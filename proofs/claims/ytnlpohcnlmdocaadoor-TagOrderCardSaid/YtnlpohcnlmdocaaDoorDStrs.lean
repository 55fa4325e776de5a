/- A list of texts in memory, told by getD. -/
import Derived.Test.YtnlpohcnlmdocaaDoorAll
namespace Go.Proofs.YtnlpohcnlmdocaaDoor
open Go.RowKit Go.Shelf

theorem Strs.getD {w : World} {A : Option Addr} {l : List ByteArray} (h : Strs w A l) (hl : l ≠ []) : ∃ b o, A = some ⟨b, o, none⟩ ∧ ∀ j, j < l.length → w.cell? ⟨b, o + j, none⟩ = some (.string (l.getD j ByteArray.empty)) := by
  obtain ⟨b, o, e, hc⟩ := h hl
  exact ⟨b, o, e, fun j hj => by rw [hc j hj]; simp [List.getD, hj]⟩

end Go.Proofs.YtnlpohcnlmdocaaDoor
