/- Rows: what comes in, opened: a list of texts. -/
import Derived.Test.YtnlpohcnlmdocaaDoorAll
import Derived.SliceStrings
import Derived.Deep.Fields
import Derived.OpenShut
namespace Go.Proofs.YtnlpohcnlmdocaaDoor
open Go.RowKit Go.ChangeShapes Go.WideShapes Go.Deep
set_option linter.unusedVariables false
set_option linter.unusedSimpArgs false

section
variable {H : Type} {enc : TypeId × Value → H} {P : Program} {w : World} {base : Nat} {spare : Nat → Bool} {held : Bool}
/-- A list of texts that came in. -/
theorem open_list {t e : TypeId} {fuel : Nat} {v : Value} {x : DataW H × List MemPlace} (ht : P.underlying t = some (.slice e)) (he : P.underlying e = some .string) (hc : P.cellsOf e = 1)
    (h : DataW.trod enc P w base spare held fuel t [v] = some x) : ∃ A c l, v = .slice A l.length c ∧ Strs w A l ∧ (∀ s ∈ l, s.size ≤ maxLen) ∧ (A = none → c = 0) := by
  rcases open_strings ht he hc h with ⟨e1, -⟩ | ⟨a, len, cap, ss, e1, -, hl, hm, hz, -, hcell, hws⟩
  · cases e1; exact ⟨none, 0, [], rfl, fun h => absurd rfl h, by simp, fun _ => rfl⟩
  · cases e1
    have hle : len ≤ ss.length := by rw [hz]; split <;> omega
    have hlen : (ss.take len).length = len := by rw [List.length_take]; omega
    refine ⟨some a, cap, ss.take len, by rw [hlen], fun hne => ?_, fun s hs => hws s (List.mem_of_mem_take hs), fun e => by cases e⟩
    have hpos : 0 < len := by
      rcases Nat.eq_zero_or_pos len with h0 | h0
      · subst h0; simp at hne
      · exact h0
    obtain ⟨b, o, sp⟩ := a
    have h0 := hcell 0 (by omega)
    have hsp : sp = none := by
      cases sp with
      | none => rfl
      | some q => exfalso; unfold World.cell? at h0; simp only [Addr.add, if_true] at h0; split at h0 <;> simp at h0
    subst hsp
    refine ⟨b, o, rfl, fun j hj => ?_⟩
    rw [hlen] at hj
    have h1 := hcell j (by omega)
    have e2 : (Addr.mk b o none).add j = ⟨b, o + j, none⟩ := by
      unfold Addr.add; split
      · rename_i h; subst h; rfl
      · rfl
    rw [e2] at h1
    rw [h1, List.getElem_take, List.getD_eq_getElem?_getD, List.getElem?_eq_getElem (by omega)]; rfl
end
end Go.Proofs.YtnlpohcnlmdocaaDoor
