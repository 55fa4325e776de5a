/- Records as bytes, in plain lists: what a right one's bytes are, and that they are read back. -/
import Derived.Test.YtnlpohcnlmdocaaGreatInside
import Derived.Test.YtnlpohcnlmdocaaGreatOpen
namespace Go.Proofs.YtnlpohcnlmdocaaGreat
open Go.Shelf Go.RowKit
set_option linter.unusedVariables false
set_option linter.unusedSimpArgs false

theorem group_len {l : List UInt8} (h : groupL l = true) : l.length ≤ 8 := by
  unfold groupL at h; simp at h; exact h.2
theorem plain_len {l : List UInt8} (h : plainL l = true) : l.length ≤ 16 := by
  unfold plainL at h; simp at h; exact h.2.1
theorem key_len {l : List UInt8} (h : keyL l = true) : l.length ≤ 16 := by
  unfold keyL at h; simp at h; exact h.2.1
theorem topic_len {l : List UInt8} (h : topicL l = true) : l.length ≤ 16 := by
  unfold topicL at h
  rw [Bool.or_eq_true] at h
  rcases h with h | h
  · obtain ⟨g, hg⟩ := Option.isSome_iff_exists.1 h
    unfold ofL at hg
    split at hg
    · rename_i h1
      have := group_len h1.2
      rw [List.length_drop] at this; omega
    · split at hg
      · rename_i h1
        have := group_len h1.2
        rw [List.length_drop] at this; omega
      · cases hg
  · exact plain_len h
theorem tag_len {l : List UInt8} (h : tagL l = true) : l.length ≤ 16 := by
  unfold tagL at h
  rw [Bool.or_eq_true] at h
  rcases h with h | h
  · rw [List.isEmpty_iff] at h; rw [h]; exact Nat.zero_le _
  · exact plain_len h
theorem okN_spec {n : Int} (h : okN n = true) : 0 ≤ n ∧ n ≤ 1099511627776 := by unfold okN at h; simp at h; exact h
theorem nums_spec {m : Msg} (h : numsM m = true) : okN m.due = true ∧ okN m.ref = true ∧ okN m.born = true := by
  unfold numsM allI at h; simp at h; exact h
theorem carries_spec {m : Msg} (h : carriesM m = true) : topicL (L m.topic) = true ∧ (0 ≤ m.queue ∧ m.queue < 3) ∧ (0 ≤ m.retry ∧ m.retry ≤ 4) ∧ tagL (L m.tag) = true ∧ m.keys.length ≤ 3 ∧ (∀ s ∈ m.keys, keyL (L s) = true) ∧ m.keys.Nodup ∧ m.body.size ≤ 200 := by
  unfold carriesM allB at h
  simp only [Bool.and_eq_true, decide_eq_true_eq, List.all_eq_true] at h
  obtain ⟨h1, h2, h3, h4, h5, h6, h7, h8, h9, h10⟩ := h
  exact ⟨h1, ⟨h2, h3⟩, ⟨h4, h5⟩, h6, by omega, h8, h9, by omega⟩
theorem carries_in {m : Msg} (hn : numsM m = true) (hc : carriesM m = true) (hk : 0 ≤ m.kind ∧ m.kind < 256) : InR m := by
  obtain ⟨n1, n2, n3⟩ := nums_spec hn
  have n1 := okN_spec n1
  have n2 := okN_spec n2
  have n3 := okN_spec n3
  obtain ⟨c1, c2, c3, c4, c5, c6, c7, c8⟩ := carries_spec hc
  have t1 := topic_len c1
  have t2 := tag_len c4
  rw [L_len] at t1 t2
  exact ⟨hk, by omega, by omega, by omega, by omega, by omega, by omega, by omega, c8, c5, fun s hs => by have := key_len (c6 s hs); rw [L_len] at this; omega⟩
theorem right_kinds {m : Msg} (h : rightM m = true) : numsM m = true ∧ ((m.kind = 1 ∧ carriesM m = true ∧ m.due = 0 ∧ m.ref = 0) ∨ (m.kind = 2 ∧ carriesM m = true) ∨ (m.kind = 3 ∧ carriesM m = true) ∨ (m.kind = 4 ∧ m = cancelM m) ∨ (m.kind = 0 ∧ fillM m = true)) := by
  unfold rightM at h
  rcases kind_cases m.kind with ⟨k1, k2, k3, k4, k0⟩ | ⟨k1, k2, k3, k4, k0⟩ | ⟨k1, k2, k3, k4, k0⟩ | ⟨k1, k2, k3, k4, k0⟩ | ⟨k1, k2, k3, k4, k0⟩ | ⟨k1, k2, k3, k4, k0⟩
  all_goals
    rw [k1, k2, k3, k4, k0] at h
    split at h
    · rename_i hn
      refine ⟨hn, ?_⟩
      simp at k1 k2 k3 k4 k0
      first
      | (simp at h; done)
      | (simp only [if_true, if_false, Bool.false_eq_true, reduceIte, Bool.and_eq_true, beq_iff_eq] at h
         first
         | exact .inl ⟨k1, h.1, h.2.1, h.2.2⟩
         | exact .inr (.inl ⟨k2, h⟩)
         | exact .inr (.inr (.inl ⟨k3, h⟩))
         | exact .inr (.inr (.inr (.inl ⟨k4, (sameM_iff _ _).1 h⟩)))
         | exact .inr (.inr (.inr (.inr ⟨k0, h⟩))))
    · cases h
theorem right_in {m : Msg} (h : rightM m = true) (hk : m.kind ≠ 0) : InR m := by
  obtain ⟨hn, h⟩ := right_kinds h
  rcases h with ⟨k, hc, _⟩ | ⟨k, hc⟩ | ⟨k, hc⟩ | ⟨k, hc⟩ | ⟨k, hc⟩
  · exact carries_in hn hc (by omega)
  · exact carries_in hn hc (by omega)
  · exact carries_in hn hc (by omega)
  · obtain ⟨n1, n2, n3⟩ := nums_spec hn
    have n2 := okN_spec n2
    have n3 := okN_spec n3
    rw [hc]
    unfold cancelM
    refine ⟨⟨?_, ?_⟩, ⟨?_, ?_⟩, ⟨?_, ?_⟩, ⟨?_, ?_⟩, ⟨?_, ?_⟩, ⟨?_, ?_⟩, ?_, ?_, ?_, ?_, fun s hs => by cases hs⟩ <;> dsimp only <;> first | omega | (simp; done) | exact Nat.zero_le _
  · exact absurd k hk
theorem fill_spec {m : Msg} (h : fillM m = true) : m.body.size ≤ 1024 ∧ m.body = B (noughtsL m.body.size) ∧ m = bareM m := by
  unfold fillM at h
  simp only [Bool.and_eq_true, decide_eq_true_eq, beq_iff_eq] at h
  obtain ⟨h1, h2, h3⟩ := h
  rw [L_of, L_of] at h2
  exact ⟨by omega, L_inj h2, (sameM_iff _ _).1 h3⟩

/-- A filler's bytes; a record's, if it may be, and has some. -/
def fillL (n : Nat) : List UInt8 := 90 :: (numL 2 n ++ noughtsL (n - 3))
def putL (m : Msg) : Option (List UInt8) :=
  if rightM m = true then (if m.kind = 0 then (if 3 ≤ m.body.size then some (fillL m.body.size) else none) else some (165 :: (numL 2 (7 + (insideL m).length) ++ sealL (insideL m)))) else none

theorem fillL_len {n : Nat} (h : 3 ≤ n) : (fillL n).length = n := by simp [fillL, numL_len, noughtsL]; omega
theorem sealL_len (l : List UInt8) : (sealL l).length = 4 + l.length := by simp [sealL, numL_len]

end Go.Proofs.YtnlpohcnlmdocaaGreat
