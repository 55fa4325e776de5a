/- Rows: what comes in, opened: an array of two numbers. -/
import Derived.Test.YtnlpohcnlmdocaaRow
namespace Go.Proofs.Ytnlpohcnlmdocaa
open Go.RowKit Go.ChangeShapes Go.WideShapes Go.Deep

theorem okWide_array {P : Program} {w : World} {r : Reach} {base : Nat} {t : TypeId} {v : Value} {n : Nat} {e : TypeId} (ht : P.underlying t = some (.array n e)) (h : Value.okWide P w r base t v) : ∃ cs, v = .agg cs ∧ cs.size = P.cellsOf t := by
  simp only [Value.okWide, ht] at h
  obtain ⟨cs, h1, h2, _⟩ := h
  exact ⟨cs, h1, h2⟩

theorem open_two {H : Type} {enc : TypeId × Value → H} {P : Program} {W : World} {spare : Nat → Bool} {held : Bool} {r : Reach} {b0 base : Nat} {t e : TypeId} {v : Value} {d : DataW H} {p : List MemPlace} (ht : P.underlying t = some (.array 2 e)) (he : P.underlying e = some (.int .i64)) (hC : P.cellsOf t = 2) (hE : P.cellsOf e = 1)
    (hv : Value.okWide P W r b0 t v) (h : DataW.Trod enc P W base spare held t v d p) : ∃ a b : Int, v = .agg #[.int .i64 a, .int .i64 b] ∧ (Lit.int .i64 a).wf = true ∧ (Lit.int .i64 b).wf = true := by
  obtain ⟨cs, rfl, hsz⟩ := okWide_array ht hv
  obtain ⟨l⟩ := cs
  obtain ⟨fuel, hf⟩ := h
  obtain ⟨xs, n, _, _, hcl, hlen, hg⟩ := DataW.trod_array ht hf
  have hl : l.length = 2 := by simpa [hC] using hsz
  match l, hl with
  | [c0, c1], _ =>
    have g0 := hg 0 (by omega)
    have g1 := hg 1 (by omega)
    rw [hE] at g0 g1
    rw [List.getElem?_eq_getElem (by omega)] at g0 g1
    obtain ⟨a, e0, -, w0⟩ := DataW.trod_int he g0
    obtain ⟨b, e1, -, w1⟩ := DataW.trod_int he g1
    simp [Value.cells] at e0 e1
    exact ⟨a, b, by rw [e0, e1], w0, w1⟩

end Go.Proofs.Ytnlpohcnlmdocaa
