/- What is still to come: the laws of what is pending. -/
import Derived.Test.YtnlpohcnlmdocaaPend9
namespace Go.Proofs.Ytnlpohcnlmdocaa
open Go.RowKit Go.Shelf Go.Maps
set_option linter.unusedSimpArgs false
set_option linter.unusedVariables false

/-- Each key is a number. -/
def IntKeyed (D : DataW Unit) : Prop := ∀ es, D = .map es → ∀ p ∈ es, ∃ x, p.1 = .int .i64 x
theorem intKeyed_of {w : World} {b n : Nat} {D : DataW Unit} (h : w.ownsMap Try.prog 3 oneR b n D) : IntKeyed D := by
  obtain ⟨es0, clock, hb, F, hs, rfl⟩ := h
  intro es e p hp
  cases e
  have hm := mem_sorted.1 hp
  obtain ⟨v, hv⟩ := fit_keys F p hm
  obtain ⟨y, _, e, hw⟩ := keyOf_int_inv Try.underlying3 hv
  exact ⟨y, e⟩
theorem key_one : ∀ {es : List (Lit × DataW Unit)}, es.Pairwise (fun p q => p.1 ≠ q.1) → ∀ {p q}, p ∈ es → q ∈ es → p.1 = q.1 → p = q
  | [], _, _, _, h, _, _ => by simp at h
  | a :: es, hP, p, q, hp, hq, e => by
    rw [List.pairwise_cons] at hP
    rcases List.mem_cons.1 hp with hp2 | hp2
    · rcases List.mem_cons.1 hq with hq2 | hq2
      · rw [hp2, hq2]
      · rw [hp2] at e; exact absurd e (hP.1 q hq2)
    · rcases List.mem_cons.1 hq with hq2 | hq2
      · rw [hq2] at e; exact absurd e.symm (hP.1 p hp2)
      · exact key_one hP.2 hp2 hq2 e
theorem st_mem {es : List (Lit × DataW Unit)} (hP : es.Pairwise (fun p q => p.1 ≠ q.1)) {x : Int} {c : Int × Int} (hm : (Lit.int .i64 x, oneD c) ∈ es) : st (.map es) x = c := by
  apply st_of
  unfold DataW.atKey
  cases hf : es.find? (fun p => p.1.sameKey (.int .i64 x)) with
  | none =>
    rw [List.find?_eq_none] at hf
    exact absurd (WideAt.sameKey_self (a := .int .i64 x) trivial) (hf _ hm)
  | some q =>
    have h1 := WideAt.sameKey_eq (a := q.1) (b := .int .i64 x) (List.find?_some (p := fun p : Lit × DataW Unit => p.1.sameKey (.int .i64 x)) hf)
    have h2 := key_one hP (List.mem_of_find?_eq_some hf) hm h1
    simp only [hf]
    rw [h2]
theorem keep_len {D : DataW Unit} (h : Good D) (hk : IntKeyed D) : (keepL D (intKeys D)).length = cntM D 1 := by
  obtain ⟨es, rfl, hP, hs⟩ := h
  show ((es.map fun p => Go.intOf p.1).filter _).length = cntE es 1
  rw [← List.countP_eq_length_filter, List.countP_map]
  unfold cntE
  apply List.countP_congr
  intro p hp
  obtain ⟨x, hx⟩ := hk es rfl p hp
  obtain ⟨c, hc, _⟩ := hs p hp
  have hst : st (.map es) x = c := st_mem hP (by rw [← hx, ← hc]; exact hp)
  have hi : Go.intOf p.1 = x := by rw [hx]; rfl
  show (!overB (.map es) (Go.intOf p.1)) = true ↔ (stD p.2 == 1) = true
  rw [hi, hc, stD_one]
  unfold overB
  rw [hst]
  simp
theorem keep_st {D : DataW Unit} {l : List Int} {x : Int} (h : x ∈ keepL D l) : (st D x).1 = 1 := by
  have := (List.mem_filter.1 h).2
  unfold overB at this
  simpa using this
theorem keys_nodup {D : DataW Unit} (h : Good D) (hk : IntKeyed D) : (intKeys D).Nodup := by
  obtain ⟨es, rfl, hP, hs⟩ := h
  show (es.map fun p => Go.intOf p.1).Nodup
  rw [List.Nodup, List.pairwise_map]
  refine List.Pairwise.imp_of_mem ?_ hP
  intro p q hp hq hne e
  obtain ⟨x, hx⟩ := hk es rfl p hp
  obtain ⟨y, hy⟩ := hk es rfl q hq
  apply hne
  rw [hx, hy] at e ⊢
  have : x = y := e
  rw [this]
theorem keep_nodup {D : DataW Unit} {l : List Int} (h : l.Nodup) : (keepL D l).Nodup := h.filter _
/-- Side by side: the later one is due no earlier, and another one. -/
theorem side {D : DataW Unit} {p : List Int} (hn : p.Nodup) {i j : Nat} (hi : i < j) (hj : j < p.length) (ha : ¬ ahead2 D p[j] (p[i]'(by omega))) : dueL D (p[i]'(by omega)) ≤ dueL D p[j] ∧ p[i]'(by omega) ≠ p[j] := by
  unfold ahead2 at ha
  refine ⟨by omega, fun e => ?_⟩
  have := (List.pairwise_iff_getElem.1 hn) i j (by omega) hj hi
  exact this e

end Go.Proofs.Ytnlpohcnlmdocaa
