/- A record with keys of its own. -/
import Derived.Test.YtnlpohcnlmdocaaDoorDStrs
namespace Go.Proofs.YtnlpohcnlmdocaaDoor
open Go.RowKit Go.Shelf
set_option linter.unusedSimpArgs false
set_option linter.unusedVariables false

/-- A list of texts that a call has made: it lies in blocks from b0 on, as a slice value. -/
theorem Strs.of_row {w : World} {b0 : Nat} {e : TypeId} {A : Option Addr} {n c : Nat} {l : List ByteArray} (h : w.ownsRow b0 e 1 (.slice A n c) n (l.map Value.string)) : Strs w A l := fun hl => by
  have hn : l.length = n := by have := h.1; simpa using this
  rcases h.2 with ⟨e0, hz⟩ | ⟨g, cap, cur, hv, hb, hh, r1, r2, r3, r4⟩
  · exact absurd (List.length_eq_zero_iff.mp (by omega)) hl
  · injection hv with h1 h2 h3
    refine ⟨g, 0, h1, fun j hj => ?_⟩
    have h4 : (cur.toList.take (n * 1))[j]? = (l.map Value.string)[j]? := by rw [r4]
    rw [List.getElem?_take_of_lt (by omega)] at h4
    unfold World.cell?
    rw [hh]
    simp only [Nat.zero_add]
    rw [← Array.getElem?_toList, h4, List.getElem?_map, List.getElem?_eq_getElem hj]; rfl

/-- What is handed back: a slice value, its list, in blocks from b0 on. -/
def OwnStrs (b0 : Nat) (w : World) (v : Value) (l : List ByteArray) : Prop := ∃ A c, v = .slice A l.length c ∧ l.length ≤ c ∧ w.ownsRow b0 9 1 v l.length (l.map Value.string)

theorem clone_any (A : Option Addr) (c : Nat) (l : List ByteArray) (w : World) (hl : Strs w A l) (hn : l.length * 16 ≤ 140737488355328) :
    Calls Tryd.prog 17 #[.slice A l.length c] w fun e w' => (∃ v, e = .returned v ∧ OwnStrs w.heap.size w' v l) ∧ Below w.heap.size w w' := by
  have own : ∀ (w' : World) (v : Value), w'.ownsRow w.heap.size 9 1 v l.length (l.map Value.string) → OwnStrs w.heap.size w' v l := by
    intro w' v h
    rcases h.2 with ⟨e, hz⟩ | ⟨g, cap, cur, hv, hb, hh, r1, r2, r3, r4⟩
    · exact ⟨none, 0, by rw [e, hz], by omega, h⟩
    · exact ⟨_, _, hv, r1, h⟩
  by_cases h0 : l = []
  · subst h0
    cases A with
    | none =>
      refine (Tryd.slices_Clone_string_nil 0 c w).mono ?_
      rintro e w' ⟨rfl, rfl⟩
      exact ⟨⟨_, rfl, none, 0, rfl, Nat.le_refl _, by exact World.ownsRow_nil _ _ _ _⟩, Below.refl _ _⟩
    | some a =>
      refine (Tryd.slices_Clone_string_zero a c w).mono ?_
      rintro e w' ⟨v, rfl, hr, _, hb⟩
      exact ⟨⟨v, rfl, own _ _ hr⟩, hb⟩
  · obtain ⟨b, o, rfl, hc⟩ := hl.getD h0
    refine (Tryd.slices_Clone_string b o l.length c l w (Nat.le_refl _) hn hc).mono ?_
    rintro e w' ⟨v, rfl, hr, _, hb⟩
    rw [List.take_length] at hr
    exact ⟨⟨v, rfl, own _ _ hr⟩, hb⟩

end Go.Proofs.YtnlpohcnlmdocaaDoor
