/- What is still to come: the counts' laws. -/
import Derived.Test.YtnlpohcnlmdocaaPend8
namespace Go.Proofs.Ytnlpohcnlmdocaa
open Go.RowKit Go.Shelf Go.Maps
set_option linter.unusedSimpArgs false
set_option linter.unusedVariables false

theorem good_nil : Good (.map []) := ⟨[], rfl, List.Pairwise.nil, by simp⟩
theorem Good.tidy {D : DataW Unit} (h : Good D) : Maps.Tidy D := by obtain ⟨es, e, hp, _⟩ := h; exact ⟨es, e, hp⟩
theorem Good.put {D : DataW Unit} (h : Good D) (id : Int) {c : Int × Int} (hc : c.1 = 1 ∨ c.1 = 2 ∨ c.1 = 3) : Good (D.put (.int .i64 id) (oneD c)) := by
  obtain ⟨es2, e2, hp2⟩ := h.tidy.put (k := .int .i64 id) trivial (oneD c)
  refine ⟨es2, e2, hp2, fun p hp => ?_⟩
  obtain ⟨es, rfl, _, hs⟩ := h
  rw [DataW.put_eq] at e2
  cases e2
  unfold ChangeMaps.putKey at hp
  rcases ChangeMaps.mem_insert_iff.1 hp with rfl | hp
  · exact ⟨c, rfl, hc⟩
  · exact hs p (List.mem_filter.1 hp).1
theorem st_cases {D : DataW Unit} (h : Good D) (id : Int) : (Maps.has D (.int .i64 id) = true ∧ ((st D id).1 = 1 ∨ (st D id).1 = 2 ∨ (st D id).1 = 3)) ∨ (Maps.has D (.int .i64 id) = false ∧ st D id = (0, 0)) := by
  rcases Bool.eq_false_or_eq_true (Maps.has D (.int .i64 id)) with hh | hh
  · left
    refine ⟨hh, ?_⟩
    obtain ⟨es, rfl, hp, hs⟩ := h
    rw [Maps.has_eq, List.any_eq_true] at hh
    obtain ⟨p, hpm, hk⟩ := hh
    cases hf : es.find? (fun p => p.1.sameKey (.int .i64 id)) with
    | none => rw [List.find?_eq_none] at hf; exact absurd hk (hf p hpm)
    | some q =>
      obtain ⟨c, hc, hcs⟩ := hs q (List.mem_of_find?_eq_some hf)
      have : st (.map es) id = c := st_of (by unfold DataW.atKey; simp only [hf]; exact hc)
      rw [this]; exact hcs
  · right
    exact ⟨hh, st_of (Maps.atKey_of_not_has hh _)⟩
theorem cnt_total {D : DataW Unit} (h : Good D) : cntM D 1 + cntM D 2 + cntM D 3 = Maps.size D := by
  obtain ⟨es, rfl, hpw, hs⟩ := h
  clear hpw
  show cntE es 1 + cntE es 2 + cntE es 3 = es.length
  unfold cntE
  induction es with
  | nil => rfl
  | cons p es ih =>
    have ih := ih (fun q hq => hs q (List.mem_cons_of_mem _ hq))
    obtain ⟨c, hc, hcs⟩ := hs p List.mem_cons_self
    have h1 : stD p.2 = c.1 := by rw [hc]; rfl
    rw [List.countP_cons, List.countP_cons, List.countP_cons, h1, List.length_cons]
    rcases hcs with e | e | e <;> rw [e] <;> simp <;> omega
theorem note_total {D D' : DataW Unit} {id kind due ref : Int} (h : Good D) (ho : noteN D id kind due ref = some D') : Good D' ∧ Maps.size D' = Maps.size D + (if kind = 2 then 1 else 0) := by
  unfold noteN at ho
  split at ho
  · cases ho
  · split at ho
    · rename_i hk
      split at ho
      · rename_i h1
        cases ho
        refine ⟨h.put ref (.inr (.inl rfl)), ?_⟩
        rcases st_cases h ref with ⟨hh, _⟩ | ⟨_, e⟩
        · rw [Maps.size_put h.tidy, if_pos hh, if_neg (by omega)]; rfl
        · rw [e] at h1; simp at h1
      · cases ho
    · split at ho
      · rename_i hk
        split at ho
        · rename_i h1
          cases ho
          refine ⟨h.put ref (.inr (.inr rfl)), ?_⟩
          rcases st_cases h ref with ⟨hh, _⟩ | ⟨_, e⟩
          · rw [Maps.size_put h.tidy, if_pos hh, if_neg (by omega)]; rfl
          · rw [e] at h1; simp at h1
        · cases ho
      · split at ho
        · rename_i hk
          split at ho
          · rename_i h1
            cases ho
            refine ⟨h.put id (.inl rfl), ?_⟩
            rcases st_cases h id with ⟨_, hs⟩ | ⟨hh, _⟩
            · rw [h1] at hs; simp at hs
            · rw [Maps.size_put h.tidy, if_neg (by simp [hh]), if_pos hk]
          · cases ho
        · cases ho

end Go.Proofs.Ytnlpohcnlmdocaa
