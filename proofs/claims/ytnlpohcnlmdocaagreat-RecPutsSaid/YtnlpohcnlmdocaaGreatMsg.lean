/- Records: the document's Msg as plain data, and the functions that hold two of them against each other, hold of a number, or copy. -/
import Derived.Test.YtnlpohcnlmdocaaGreatAll
import Derived.Deep.QuietTactic
import Derived.BigQuiet
namespace Go.Proofs.YtnlpohcnlmdocaaGreat
open Go.RowKit Go.Shelf

structure Msg where
  kind : Int
  queue : Int
  due : Int
  retry : Int
  ref : Int
  born : Int
  topic : ByteArray
  tag : ByteArray
  body : ByteArray
  keys : List ByteArray

def sameM (a b : Msg) : Bool := (a.kind == b.kind) && ((a.queue == b.queue) && ((a.due == b.due) && ((a.retry == b.retry) && ((a.ref == b.ref) && ((a.born == b.born) && ((a.topic.toList == b.topic.toList) && ((a.tag.toList == b.tag.toList) && ((a.body.toList == b.body.toList) && decide (a.keys = b.keys)))))))))

theorem same_ways (a b : Msg) : ((a.kind == b.kind) = false ∧ sameM a b = false) ∨
    ((a.kind == b.kind) = true ∧ (a.queue == b.queue) = false ∧ sameM a b = false) ∨
    ((a.kind == b.kind) = true ∧ (a.queue == b.queue) = true ∧ (a.due == b.due) = false ∧ sameM a b = false) ∨
    ((a.kind == b.kind) = true ∧ (a.queue == b.queue) = true ∧ (a.due == b.due) = true ∧ (a.retry == b.retry) = false ∧ sameM a b = false) ∨
    ((a.kind == b.kind) = true ∧ (a.queue == b.queue) = true ∧ (a.due == b.due) = true ∧ (a.retry == b.retry) = true ∧ (a.ref == b.ref) = false ∧ sameM a b = false) ∨
    ((a.kind == b.kind) = true ∧ (a.queue == b.queue) = true ∧ (a.due == b.due) = true ∧ (a.retry == b.retry) = true ∧ (a.ref == b.ref) = true ∧ (a.born == b.born) = false ∧ sameM a b = false) ∨
    ((a.kind == b.kind) = true ∧ (a.queue == b.queue) = true ∧ (a.due == b.due) = true ∧ (a.retry == b.retry) = true ∧ (a.ref == b.ref) = true ∧ (a.born == b.born) = true ∧ (a.topic.toList == b.topic.toList) = false ∧ sameM a b = false) ∨
    ((a.kind == b.kind) = true ∧ (a.queue == b.queue) = true ∧ (a.due == b.due) = true ∧ (a.retry == b.retry) = true ∧ (a.ref == b.ref) = true ∧ (a.born == b.born) = true ∧ (a.topic.toList == b.topic.toList) = true ∧ (a.tag.toList == b.tag.toList) = false ∧ sameM a b = false) ∨
    ((a.kind == b.kind) = true ∧ (a.queue == b.queue) = true ∧ (a.due == b.due) = true ∧ (a.retry == b.retry) = true ∧ (a.ref == b.ref) = true ∧ (a.born == b.born) = true ∧ (a.topic.toList == b.topic.toList) = true ∧ (a.tag.toList == b.tag.toList) = true ∧ (a.body.toList == b.body.toList) = false ∧ sameM a b = false) ∨
    ((a.kind == b.kind) = true ∧ (a.queue == b.queue) = true ∧ (a.due == b.due) = true ∧ (a.retry == b.retry) = true ∧ (a.ref == b.ref) = true ∧ (a.born == b.born) = true ∧ (a.topic.toList == b.topic.toList) = true ∧ (a.tag.toList == b.tag.toList) = true ∧ (a.body.toList == b.body.toList) = true ∧ sameM a b = decide (a.keys = b.keys)) := by
  rcases Bool.eq_false_or_eq_true (a.kind == b.kind) with h0 | h0
  rotate_left
  · exact (.inl ⟨h0, by simp only [sameM, h0, Bool.false_and]⟩)
  rcases Bool.eq_false_or_eq_true (a.queue == b.queue) with h1 | h1
  rotate_left
  · exact (.inr (.inl ⟨h0, h1, by simp only [sameM, h0, h1, Bool.true_and, Bool.false_and]⟩))
  rcases Bool.eq_false_or_eq_true (a.due == b.due) with h2 | h2
  rotate_left
  · exact (.inr (.inr (.inl ⟨h0, h1, h2, by simp only [sameM, h0, h1, h2, Bool.true_and, Bool.false_and]⟩)))
  rcases Bool.eq_false_or_eq_true (a.retry == b.retry) with h3 | h3
  rotate_left
  · exact (.inr (.inr (.inr (.inl ⟨h0, h1, h2, h3, by simp only [sameM, h0, h1, h2, h3, Bool.true_and, Bool.false_and]⟩))))
  rcases Bool.eq_false_or_eq_true (a.ref == b.ref) with h4 | h4
  rotate_left
  · exact (.inr (.inr (.inr (.inr (.inl ⟨h0, h1, h2, h3, h4, by simp only [sameM, h0, h1, h2, h3, h4, Bool.true_and, Bool.false_and]⟩)))))
  rcases Bool.eq_false_or_eq_true (a.born == b.born) with h5 | h5
  rotate_left
  · exact (.inr (.inr (.inr (.inr (.inr (.inl ⟨h0, h1, h2, h3, h4, h5, by simp only [sameM, h0, h1, h2, h3, h4, h5, Bool.true_and, Bool.false_and]⟩))))))
  rcases Bool.eq_false_or_eq_true (a.topic.toList == b.topic.toList) with h6 | h6
  rotate_left
  · exact (.inr (.inr (.inr (.inr (.inr (.inr (.inl ⟨h0, h1, h2, h3, h4, h5, h6, by simp only [sameM, h0, h1, h2, h3, h4, h5, h6, Bool.true_and, Bool.false_and]⟩)))))))
  rcases Bool.eq_false_or_eq_true (a.tag.toList == b.tag.toList) with h7 | h7
  rotate_left
  · exact (.inr (.inr (.inr (.inr (.inr (.inr (.inr (.inl ⟨h0, h1, h2, h3, h4, h5, h6, h7, by simp only [sameM, h0, h1, h2, h3, h4, h5, h6, h7, Bool.true_and, Bool.false_and]⟩))))))))
  rcases Bool.eq_false_or_eq_true (a.body.toList == b.body.toList) with h8 | h8
  rotate_left
  · exact (.inr (.inr (.inr (.inr (.inr (.inr (.inr (.inr (.inl ⟨h0, h1, h2, h3, h4, h5, h6, h7, h8, by simp only [sameM, h0, h1, h2, h3, h4, h5, h6, h7, h8, Bool.true_and, Bool.false_and]⟩)))))))))
  exact (.inr (.inr (.inr (.inr (.inr (.inr (.inr (.inr (.inr ⟨h0, h1, h2, h3, h4, h5, h6, h7, h8, by simp only [sameM, h0, h1, h2, h3, h4, h5, h6, h7, h8, Bool.true_and]⟩)))))))))

theorem sameM_iff (a b : Msg) : sameM a b = true ↔ a = b := by
  cases a; cases b
  have e : ∀ x y : ByteArray, (L x = L y) = (x = y) := fun x y => propext ⟨L_inj, fun h => by rw [h]⟩
  simp [sameM, L_of, e]


theorem drewN_of {P : Program} {f : FuncId} {args : Array Value} {w : World} {b : Bool} (h : Calls P f args w fun e w' => e = .returned (.bool b) ∧ w' = w) : Calls P f args w fun e w' => e = .returned (.bool b) ∧ ∃ q, w' = w.drewN q :=
  h.mono fun _ _ ⟨he, hw⟩ => ⟨he, 0, hw⟩

theorem Strs.getD {w : World} {A : Option Addr} {l : List ByteArray} (h : Strs w A l) (hl : l ≠ []) : ∃ b o, A = some ⟨b, o, none⟩ ∧ ∀ j, j < l.length → w.cell? ⟨b, o + j, none⟩ = some (.string (l.getD j ByteArray.empty)) := by
  obtain ⟨b, o, e, hc⟩ := h hl
  exact ⟨b, o, e, fun j hj => by rw [hc j hj]; simp [List.getD, hj]⟩

/-- slices.Equal at two lists of texts. -/
theorem equal_any (A A' : Option Addr) (c c' : Nat) (l l' : List ByteArray) (w : World) (hl : Strs w A l) (hl' : Strs w A' l') (hn : l.length ≤ 9223372036854775807) (hn' : l'.length ≤ 9223372036854775807) :
    Calls Tryz.prog 36 #[.slice A l.length c, .slice A' l'.length c'] w fun e w' => e = .returned (.bool (decide (l = l'))) ∧ ∃ q, w' = w.drewN q := by
  by_cases hL : l.length = l'.length
  · by_cases h0 : l = []
    · subst h0
      have : l' = [] := List.length_eq_zero_iff.mp (by simpa using hL.symm)
      subst this
      exact drewN_of (Tryz.slices_Equal_string_empty A A' c 0 c' w (by omega))
    · have h0' : l' ≠ [] := by intro e; subst e; exact h0 (List.length_eq_zero_iff.mp (by simpa using hL))
      obtain ⟨b, o, rfl, hc⟩ := hl.getD h0
      obtain ⟨b', o', rfl, hc'⟩ := hl'.getD h0'
      have := Tryz.slices_Equal_string b o l.length c b' o' l'.length c' l l' w (Nat.le_refl _) (Nat.le_refl _) hn hn' hc hc'
      rw [List.take_length, List.take_length] at this
      exact this
  · have hne : l ≠ l' := fun e => hL (by rw [e])
    have := Tryz.slices_Equal_string_lens A A' l.length c l'.length c' w hL
    rw [decide_eq_false hne]
    exact drewN_of this


set_option maxHeartbeats 4000000 in
theorem same_any (a b : Msg) (A A' : Option Addr) (c c' : Nat) (w : World) (hl : Strs w A a.keys) (hl' : Strs w A' b.keys) (hn : a.keys.length ≤ 9223372036854775806) (hn' : b.keys.length ≤ 9223372036854775806) :
    Calls Tryz.prog 13 #[.agg #[.int .i64 a.kind, .int .i64 a.queue, .int .i64 a.due, .int .i64 a.retry, .int .i64 a.ref, .int .i64 a.born, .string a.topic, .string a.tag, .string a.body, .slice A a.keys.length c], .agg #[.int .i64 b.kind, .int .i64 b.queue, .int .i64 b.due, .int .i64 b.retry, .int .i64 b.ref, .int .i64 b.born, .string b.topic, .string b.tag, .string b.body, .slice A' b.keys.length c']] w fun e w' => e = .returned (.bool (sameM a b)) ∧ Below w.heap.size w w' := by
  have hK : ∀ (o1 o2 : Obj), Calls Tryz.prog 36 #[.slice A a.keys.length c, .slice A' b.keys.length c'] ((w.alloc o1).alloc o2) fun e w' => e = .returned (.bool (decide (a.keys = b.keys))) ∧ ∃ q, w' = ((w.alloc o1).alloc o2).drewN q :=
    fun o1 o2 => equal_any _ _ _ _ _ _ _ (hl.below (balloc (balloc (Below.refl _ _)))) (hl'.below (balloc (balloc (Below.refl _ _)))) (by omega) (by omega)
  have HL := Lib.hid hl
  have HL' := Lib.hid hl'
  clear hl hl'
  rcases same_ways a b with ⟨h0, hS⟩ | ⟨h0, h1, hS⟩ | ⟨h0, h1, h2, hS⟩ | ⟨h0, h1, h2, h3, hS⟩ | ⟨h0, h1, h2, h3, h4, hS⟩ | ⟨h0, h1, h2, h3, h4, h5, hS⟩ | ⟨h0, h1, h2, h3, h4, h5, h6, hS⟩ | ⟨h0, h1, h2, h3, h4, h5, h6, h7, hS⟩ | ⟨h0, h1, h2, h3, h4, h5, h6, h7, h8, hS⟩ | ⟨h0, h1, h2, h3, h4, h5, h6, h7, h8, hS⟩
  all_goals
    have HS := Lib.hid hS
    clear hS
    go_enter Tryz.func13, Tryz.ntmps13
    go_wp2_with (first | (go_at_call 36; refine (hK _ _).mono ?_; rintro e w' ⟨rfl, q, rfl⟩))
    go_ret
    exact ⟨ret_bool HS.out.symm, by repeat (first | exact Below.refl _ _ | apply bdrewN | apply balloc)⟩

end Go.Proofs.YtnlpohcnlmdocaaGreat
