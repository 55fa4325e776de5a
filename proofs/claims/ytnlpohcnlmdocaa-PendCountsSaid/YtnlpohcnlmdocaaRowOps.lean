/- Rows: what comes in, opened: a list of records that are noted. -/
import Derived.Test.YtnlpohcnlmdocaaPend12
import Derived.Deep.Fields
import Derived.OpenShut
import Derived.Deep.Slices
namespace Go.Proofs.Ytnlpohcnlmdocaa
open Go.RowKit Go.ChangeShapes Go.WideShapes Go.Deep
set_option linter.unusedSimpArgs false
set_option linter.unusedVariables false

section
variable {H : Type} {enc : TypeId × Value → H} {P : Program} {w : World} {base : Nat} {spare : Nat → Bool} {held : Bool}

/-- A struct's one-cell field: its cell and its reading. -/
theorem agg_field {fs : Array Field} {cs : List Value} {xs : List (DataW H × List MemPlace)} {n : Nat} (hone : oneCellFields P fs = true) (hcs : cs.length = fs.size) (hxs : xs.length = fs.size)
    (hg : ∀ (i : Nat) (f : Field), fs[i]? = some f → DataW.trod enc P w base spare held n f.type ((cs.drop f.offset).take (P.cellsOf f.type)) = xs[i]?) (j : Nat) (f : Field) (hj : fs[j]? = some f) :
    ∃ v y, cs[j]? = some v ∧ DataW.trod enc P w base spare held n f.type [v] = some y := by
  obtain ⟨ho, hk⟩ := hone_of hone j f hj
  have hjl : j < fs.size := (Array.getElem?_eq_some_iff.1 hj).1
  have h1 := hg j f hj
  rw [ho, hk] at h1
  have hone' : (cs.drop j).take 1 = [cs[j]'(by omega)] := by
    rw [List.drop_eq_getElem_cons (by omega)]; rfl
  rw [hone'] at h1
  exact ⟨_, _, List.getElem?_eq_getElem (by omega), h1.trans (List.getElem?_eq_getElem (by omega))⟩

theorem agg_int {k : IntKind} {cs : List Value} {j n : Nat} {t : TypeId} (hu : P.underlying t = some (.int k)) (h : ∃ v y, cs[j]? = some v ∧ DataW.trod enc P w base spare held n t [v] = some y) : ∃ a : Int, cs[j]? = some (.int k a) ∧ (Lit.int k a).wf = true := by
  obtain ⟨v, y, e, h⟩ := h
  obtain ⟨a, e2, -, hw⟩ := DataW.trod_int hu h
  cases e2; exact ⟨a, e, hw⟩
end

theorem addr_add (b o k : Nat) : (Addr.mk b o none).add k = ⟨b, o + k, none⟩ := by
  unfold Addr.add; split
  · rename_i h; subst h; rfl
  · rfl
theorem spot_none {w : World} {a : Addr} {v : Value} (h : w.cell? a = some v) : ∃ b o, a = ⟨b, o, none⟩ := by
  obtain ⟨b, o, sp⟩ := a
  cases sp with
  | none => exact ⟨b, o, rfl⟩
  | some q => exfalso; unfold World.cell? at h; simp only [] at h; split at h <;> simp at h
theorem agg_bool {H : Type} {enc : TypeId × Value → H} {P : Program} {w : World} {base : Nat} {spare : Nat → Bool} {held : Bool} {cs : List Value} {j n : Nat} {t : TypeId} (hu : P.underlying t = some .bool) (h : ∃ v y, cs[j]? = some v ∧ DataW.trod enc P w base spare held n t [v] = some y) : ∃ a : Bool, cs[j]? = some (.bool a) := by
  obtain ⟨v, y, e, h⟩ := h
  obtain ⟨a, e2, _⟩ := DataW.trod_bool hu h
  cases e2; exact ⟨a, e⟩
theorem choose_list {α : Type} {n : Nat} {p : Nat → α → Prop} (h : ∀ i, i < n → ∃ a, p i a) : ∃ l : List α, l.length = n ∧ ∀ i (hi : i < l.length), p i l[i] := by
  induction n with
  | zero => exact ⟨[], rfl, fun i hi => by simp at hi⟩
  | succ n ih =>
    obtain ⟨l, hl, hp⟩ := ih fun i hi => h i (by omega)
    obtain ⟨a, ha⟩ := h n (by omega)
    refine ⟨l ++ [a], by simp [hl], fun i hi => ?_⟩
    rcases Nat.lt_or_ge i l.length with h1 | h1
    · rw [List.getElem_append_left h1]; exact hp i h1
    · have : i = n := by simp at hi; omega
      subst this
      rw [List.getElem_append_right (by omega)]; simpa [hl] using ha

set_option maxRecDepth 100000 in
theorem open_ops {H : Type} {enc : TypeId × Value → H} {W : World} {spare : Nat → Bool} {held : Bool} {base fuel : Nat} {v : Value} {x : DataW H × List MemPlace} (h : DataW.trod enc Try.prog W base spare held fuel 29 [v] = some x) :
    ∃ (A : Option Addr) (c : Nat) (l : List OpV), v = .slice A l.length c ∧ Ops W A l ∧ ∀ x ∈ l, (Lit.int .i64 x.id).wf = true ∧ (Lit.int .i64 x.ref).wf = true := by
  have hs := Try.underlying33
  have hC : Try.prog.cellsOf 33 = 5 := by kernel_rfl
  rcases open_slice Try.underlying29 h with ⟨e1, -⟩ | ⟨a, len, cap, m, n, D, Pl, e1, -, hl, -, hm, -, hx⟩
  · cases e1; exact ⟨none, 0, [], rfl, fun h => absurd rfl h, by simp⟩
  · cases e1
    rw [hC] at hx
    have hle : len ≤ m := by rw [hm]; split <;> omega
    have hel : ∀ i, i < len → ∃ x : OpV, (W.cell? (a.add (i * 5)) = some (.int .i64 x.id) ∧ (∀ j v, [Value.int .i64 x.id, .int .i64 x.kind, .int .i64 x.due, .int .i64 x.ref, .bool x.trim][j]? = some v → W.cell? ((a.add (i * 5)).add j) = some v)) ∧ (Lit.int .i64 x.id).wf = true ∧ (Lit.int .i64 x.ref).wf = true := by
      intro i hi
      obtain ⟨cs, hcs, ht⟩ := hx i (by omega)
      obtain ⟨_, hcl, hcell⟩ := World.cells?_some hcs
      obtain ⟨k, rfl⟩ : ∃ k, n = k + 1 := by
        cases n with
        | zero => simp [DataW.trod] at ht
        | succ k => exact ⟨k, rfl⟩
      obtain ⟨xs, n', _, _, hcl2, hlen, hg⟩ := DataW.trod_struct hs ht
      have hone : ∀ fs, Try.prog.underlying 33 = some (.struct fs) → oneCellFields Try.prog fs = true := by
        intro fs h; rw [hs] at h; cases h; kernel_rfl
      have hgf := agg_field (cs := cs) (hone _ hs) (by rw [hcl]; rfl) hlen (by simpa [Value.cells] using hg)
      obtain ⟨k0, e0, w0⟩ := agg_int Try.underlying3 (hgf 0 _ rfl)
      obtain ⟨k1, e1, w1⟩ := agg_int Try.underlying3 (hgf 1 _ rfl)
      obtain ⟨k2, e2, w2⟩ := agg_int Try.underlying3 (hgf 2 _ rfl)
      obtain ⟨k3, e3, w3⟩ := agg_int Try.underlying3 (hgf 3 _ rfl)
      obtain ⟨k4, e4⟩ := agg_bool Try.underlying4 (hgf 4 _ rfl)
      have hall : ∀ j v, [Value.int .i64 k0, .int .i64 k1, .int .i64 k2, .int .i64 k3, .bool k4][j]? = some v → W.cell? ((a.add (i * 5)).add j) = some v := by
        intro j v hv
        have hj : j < 5 := (List.getElem?_eq_some_iff.1 hv).1
        rw [hcell j (by omega)]
        match j, hj with
        | 0, _ => rw [e0]; exact hv
        | 1, _ => rw [e1]; exact hv
        | 2, _ => rw [e2]; exact hv
        | 3, _ => rw [e3]; exact hv
        | 4, _ => rw [e4]; exact hv
      refine ⟨⟨k0, k1, k2, k3, k4⟩, ⟨?_, hall⟩, w0, w3⟩
      have := hall 0 _ rfl
      have e : (a.add (i * 5)).add 0 = a.add (i * 5) := by simp [Addr.add]
      rwa [e] at this
    obtain ⟨l, hll, hp⟩ := choose_list hel
    refine ⟨some a, cap, l, by rw [hll], fun hne => ?_, fun x hx' => ?_⟩
    · have hpos : 0 < l.length := List.length_pos_iff.2 hne
      have h00 := (hp 0 hpos).1.1
      rw [Nat.zero_mul, show a.add 0 = a by simp [Addr.add]] at h00
      obtain ⟨b, o, rfl⟩ := spot_none h00
      refine ⟨b, o, rfl, fun k hk => ?_⟩
      have h1 := (hp k hk).1.2
      have hf : ∀ j v, [Value.int .i64 l[k].id, .int .i64 l[k].kind, .int .i64 l[k].due, .int .i64 l[k].ref, .bool l[k].trim][j]? = some v → W.cell? ⟨b, o + k * 5 + j, none⟩ = some v := by
        intro j v hv
        have := h1 j v hv
        rwa [addr_add, addr_add] at this
      exact ⟨hf 0 _ rfl, hf 1 _ rfl, hf 2 _ rfl, hf 3 _ rfl, hf 4 _ rfl⟩
    · obtain ⟨k, hk, rfl⟩ := List.mem_iff_getElem.1 hx'
      exact (hp k hk).2

end Go.Proofs.Ytnlpohcnlmdocaa
