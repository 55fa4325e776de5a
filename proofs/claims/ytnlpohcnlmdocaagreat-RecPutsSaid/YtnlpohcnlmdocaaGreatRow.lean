/- Rows: what comes in, opened: a record. -/
import Derived.Test.YtnlpohcnlmdocaaGreatA
import Derived.Test.YtnlpohcnlmdocaaGreatAll
import Derived.Test.YtnlpohcnlmdocaaGreatMsg
import Derived.SliceStrings
import Derived.Deep.Fields
import Derived.OpenShut
namespace Go.Proofs.YtnlpohcnlmdocaaGreat
open Go.RowKit Go.ChangeShapes Go.WideShapes Go.Deep

section
variable {H : Type} {enc : TypeId × Value → H} {P : Program} {w : World} {base : Nat} {spare : Nat → Bool} {held : Bool}

/-- A struct's one-cell field: its cell and its reading. -/
theorem agg_field {fs : Array Field} {cs : List Value} {xs : List (DataW H × List MemPlace)} {n : Nat} (hone : oneCellFields P fs = true) (hcs : cs.length = fs.size) (hxs : xs.length = fs.size)
    (hg : ∀ (i : Nat) (f : Field), fs[i]? = some f → DataW.trod enc P w base spare held n f.type ((cs.drop f.offset).take (P.cellsOf f.type)) = xs[i]?) (j : Nat) (f : Field) (hj : fs[j]? = some f) :
    ∃ v y, cs[j]? = some v ∧ DataW.trod enc P w base spare held n f.type [v] = some y := by
  obtain ⟨ho, hk⟩ := hone_of hone j f hj
  have hjl : j < fs.size := (Array.getElem?_eq_some_iff.1 hj).1
  have h1 := hg j f hj
  rw [ho, hk] at h1
  have hone' : (cs.drop j).take 1 = [cs[j]'(by omega)] := by
    rw [List.drop_eq_getElem_cons (by omega)]; rfl
  rw [hone'] at h1
  exact ⟨_, _, List.getElem?_eq_getElem (by omega), h1.trans (List.getElem?_eq_getElem (by omega))⟩

theorem agg_int {k : IntKind} {cs : List Value} {j n : Nat} {t : TypeId} (hu : P.underlying t = some (.int k)) (h : ∃ v y, cs[j]? = some v ∧ DataW.trod enc P w base spare held n t [v] = some y) : ∃ a : Int, cs[j]? = some (.int k a) ∧ (Lit.int k a).wf = true := by
  obtain ⟨v, y, e, h⟩ := h
  obtain ⟨a, e2, -, hw⟩ := DataW.trod_int hu h
  cases e2; exact ⟨a, e, hw⟩
theorem agg_str {cs : List Value} {j n : Nat} {t : TypeId} (hu : P.underlying t = some .string) (h : ∃ v y, cs[j]? = some v ∧ DataW.trod enc P w base spare held n t [v] = some y) : ∃ a : ByteArray, cs[j]? = some (.string a) ∧ a.size ≤ maxLen := by
  obtain ⟨v, y, e, h⟩ := h
  obtain ⟨a, e2, -, hw⟩ := DataW.trod_string hu h
  cases e2; exact ⟨a, e, hw⟩

/-- A list of texts that came in. -/
theorem open_strs {t e : TypeId} {fuel : Nat} {v : Value} {x : DataW H × List MemPlace} (ht : P.underlying t = some (.slice e)) (he : P.underlying e = some .string) (hc : P.cellsOf e = 1)
    (h : DataW.trod enc P w base spare held fuel t [v] = some x) : ∃ A c l, v = .slice A l.length c ∧ Strs w A l ∧ ∀ s ∈ l, s.size ≤ maxLen := by
  rcases open_strings ht he hc h with ⟨e1, -⟩ | ⟨a, len, cap, ss, e1, -, hl, hm, hz, -, hcell, hws⟩
  · cases e1; exact ⟨none, 0, [], rfl, fun h => absurd rfl h, by simp⟩
  · cases e1
    have hle : len ≤ ss.length := by rw [hz]; split <;> omega
    have hlen : (ss.take len).length = len := by rw [List.length_take]; omega
    refine ⟨some a, cap, ss.take len, by rw [hlen], fun hne => ?_, fun s hs => hws s (List.mem_of_mem_take hs)⟩
    have hpos : 0 < len := by
      rcases Nat.eq_zero_or_pos len with h0 | h0
      · subst h0; simp at hne
      · exact h0
    obtain ⟨b, o, sp⟩ := a
    have h0 := hcell 0 (by omega)
    have hsp : sp = none := by
      cases sp with
      | none => rfl
      | some q => exfalso; unfold World.cell? at h0; simp only [Addr.add, if_true] at h0; split at h0 <;> simp at h0
    subst hsp
    refine ⟨b, o, rfl, fun j hj => ?_⟩
    rw [hlen] at hj
    have h1 := hcell j (by omega)
    have e2 : (Addr.mk b o none).add j = ⟨b, o + j, none⟩ := by
      unfold Addr.add; split
      · rename_i h; subst h; rfl
      · rfl
    rw [e2] at h1
    rw [h1, List.getElem_take, List.getD_eq_getElem?_getD, List.getElem?_eq_getElem (by omega)]; rfl
end

theorem list10 {α : Type} {l : List α} {a0 a1 a2 a3 a4 a5 a6 a7 a8 a9 : α} (hl : l.length = 10) (h0 : l[0]? = some a0) (h1 : l[1]? = some a1) (h2 : l[2]? = some a2) (h3 : l[3]? = some a3) (h4 : l[4]? = some a4) (h5 : l[5]? = some a5) (h6 : l[6]? = some a6) (h7 : l[7]? = some a7) (h8 : l[8]? = some a8) (h9 : l[9]? = some a9) :
    l = [a0, a1, a2, a3, a4, a5, a6, a7, a8, a9] := by
  match l, hl with
  | [b0, b1, b2, b3, b4, b5, b6, b7, b8, b9], _ =>
    simp at h0 h1 h2 h3 h4 h5 h6 h7 h8 h9
    subst h0 h1 h2 h3 h4 h5 h6 h7 h8 h9; rfl

set_option maxRecDepth 100000 in
theorem open_msg {H : Type} {enc : TypeId × Value → H} {W : World} {spare : Nat → Bool} {held : Bool} {r : Reach} {b0 base : Nat} {v : Value} {d : DataW H} {p : List MemPlace} (hv : Value.okWide Tryz.prog W r b0 24 v) (h : DataW.Trod enc Tryz.prog W base spare held 24 v d p) :
    ∃ (m : Msg) (A : Option Addr) (c : Nat), v = .agg #[.int .i64 m.kind, .int .i64 m.queue, .int .i64 m.due, .int .i64 m.retry, .int .i64 m.ref, .int .i64 m.born, .string m.topic, .string m.tag, .string m.body, .slice A m.keys.length c] ∧ Strs W A m.keys ∧
      ((Lit.int .i64 m.kind).wf = true ∧ (Lit.int .i64 m.queue).wf = true ∧ (Lit.int .i64 m.due).wf = true ∧ (Lit.int .i64 m.retry).wf = true ∧ (Lit.int .i64 m.ref).wf = true ∧ (Lit.int .i64 m.born).wf = true) ∧ (m.topic.size ≤ maxLen ∧ m.tag.size ≤ maxLen ∧ m.body.size ≤ maxLen ∧ ∀ s ∈ m.keys, s.size ≤ maxLen) := by
  have hs := Tryz.underlying24
  obtain ⟨cs, rfl, hsz⟩ := okWide_struct hs hv
  obtain ⟨l⟩ := cs
  obtain ⟨fuel, hf⟩ := h
  obtain ⟨xs, n, _, _, hcl, hlen, hg⟩ := DataW.trod_struct hs hf
  have hC : Tryz.prog.cellsOf 24 = 10 := by kernel_rfl
  have hl : l.length = 10 := by simpa [hC] using hsz
  have hone : ∀ fs, Tryz.prog.underlying 24 = some (.struct fs) → oneCellFields Tryz.prog fs = true := by
    intro fs h; rw [hs] at h; cases h; kernel_rfl
  have hgf := agg_field (cs := l) (hone _ hs) (by rw [hl]; rfl) hlen (by simpa [Value.cells] using hg)
  obtain ⟨k0, e0, w0⟩ := agg_int Tryz.underlying3 (hgf 0 _ rfl)
  obtain ⟨k1, e1, w1⟩ := agg_int Tryz.underlying3 (hgf 1 _ rfl)
  obtain ⟨k2, e2, w2⟩ := agg_int Tryz.underlying3 (hgf 2 _ rfl)
  obtain ⟨k3, e3, w3⟩ := agg_int Tryz.underlying3 (hgf 3 _ rfl)
  obtain ⟨k4, e4, w4⟩ := agg_int Tryz.underlying3 (hgf 4 _ rfl)
  obtain ⟨k5, e5, w5⟩ := agg_int Tryz.underlying3 (hgf 5 _ rfl)
  obtain ⟨k6, e6, w6⟩ := agg_str Tryz.underlying9 (hgf 6 _ rfl)
  obtain ⟨k7, e7, w7⟩ := agg_str Tryz.underlying9 (hgf 7 _ rfl)
  obtain ⟨k8, e8, w8⟩ := agg_str Tryz.underlying9 (hgf 8 _ rfl)
  obtain ⟨v9, y9, e9, h9⟩ := hgf 9 _ rfl
  obtain ⟨A, c, keys, rfl, hS, hks⟩ := open_strs Tryz.underlying22 Tryz.underlying9 (by kernel_rfl) h9
  exact ⟨⟨k0, k1, k2, k3, k4, k5, k6, k7, k8, keys⟩, A, c, by rw [list10 hl e0 e1 e2 e3 e4 e5 e6 e7 e8 e9], hS, ⟨w0, w1, w2, w3, w4, w5⟩, w6, w7, w8, hks⟩

end Go.Proofs.YtnlpohcnlmdocaaGreat
