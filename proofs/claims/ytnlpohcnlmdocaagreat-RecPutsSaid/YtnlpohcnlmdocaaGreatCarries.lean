/- What a message carries may be: the program's answer. -/
import Derived.Test.YtnlpohcnlmdocaaGreatMsgR
import Derived.Test.YtnlpohcnlmdocaaGreatNums
import Derived.Test.YtnlpohcnlmdocaaGreatUnlike
namespace Go.Proofs.YtnlpohcnlmdocaaGreat
open Go.RowKit Go.Shelf

def carriesM (m : Msg) : Bool := topicL (L m.topic) && (decide (0 ≤ m.queue) && (decide (m.queue < 3) && (decide (0 ≤ m.retry) && (decide (m.retry ≤ 4) && (tagL (L m.tag) && (decide ((m.keys.length : Int) ≤ 3) && (allB (fun s => keyL (L s)) m.keys && (decide m.keys.Nodup && (decide ((m.body.size : Int) ≤ 200))))))))))

theorem carries_ways (m : Msg) : (topicL (L m.topic) = false ∧ carriesM m = false) ∨
    (topicL (L m.topic) = true ∧ decide (0 ≤ m.queue) = false ∧ carriesM m = false) ∨
    (topicL (L m.topic) = true ∧ decide (0 ≤ m.queue) = true ∧ decide (m.queue < 3) = false ∧ carriesM m = false) ∨
    (topicL (L m.topic) = true ∧ decide (0 ≤ m.queue) = true ∧ decide (m.queue < 3) = true ∧ decide (0 ≤ m.retry) = false ∧ carriesM m = false) ∨
    (topicL (L m.topic) = true ∧ decide (0 ≤ m.queue) = true ∧ decide (m.queue < 3) = true ∧ decide (0 ≤ m.retry) = true ∧ decide (m.retry ≤ 4) = false ∧ carriesM m = false) ∨
    (topicL (L m.topic) = true ∧ decide (0 ≤ m.queue) = true ∧ decide (m.queue < 3) = true ∧ decide (0 ≤ m.retry) = true ∧ decide (m.retry ≤ 4) = true ∧ tagL (L m.tag) = false ∧ carriesM m = false) ∨
    (topicL (L m.topic) = true ∧ decide (0 ≤ m.queue) = true ∧ decide (m.queue < 3) = true ∧ decide (0 ≤ m.retry) = true ∧ decide (m.retry ≤ 4) = true ∧ tagL (L m.tag) = true ∧ decide ((m.keys.length : Int) ≤ 3) = false ∧ carriesM m = false) ∨
    (topicL (L m.topic) = true ∧ decide (0 ≤ m.queue) = true ∧ decide (m.queue < 3) = true ∧ decide (0 ≤ m.retry) = true ∧ decide (m.retry ≤ 4) = true ∧ tagL (L m.tag) = true ∧ decide ((m.keys.length : Int) ≤ 3) = true ∧ allB (fun s => keyL (L s)) m.keys = false ∧ carriesM m = false) ∨
    (topicL (L m.topic) = true ∧ decide (0 ≤ m.queue) = true ∧ decide (m.queue < 3) = true ∧ decide (0 ≤ m.retry) = true ∧ decide (m.retry ≤ 4) = true ∧ tagL (L m.tag) = true ∧ decide ((m.keys.length : Int) ≤ 3) = true ∧ allB (fun s => keyL (L s)) m.keys = true ∧ decide m.keys.Nodup = false ∧ carriesM m = false) ∨
    (topicL (L m.topic) = true ∧ decide (0 ≤ m.queue) = true ∧ decide (m.queue < 3) = true ∧ decide (0 ≤ m.retry) = true ∧ decide (m.retry ≤ 4) = true ∧ tagL (L m.tag) = true ∧ decide ((m.keys.length : Int) ≤ 3) = true ∧ allB (fun s => keyL (L s)) m.keys = true ∧ decide m.keys.Nodup = true ∧ decide ((m.body.size : Int) ≤ 200) = false ∧ carriesM m = false) ∨
    (topicL (L m.topic) = true ∧ decide (0 ≤ m.queue) = true ∧ decide (m.queue < 3) = true ∧ decide (0 ≤ m.retry) = true ∧ decide (m.retry ≤ 4) = true ∧ tagL (L m.tag) = true ∧ decide ((m.keys.length : Int) ≤ 3) = true ∧ allB (fun s => keyL (L s)) m.keys = true ∧ decide m.keys.Nodup = true ∧ decide ((m.body.size : Int) ≤ 200) = true ∧ carriesM m = true) := by
  rcases Bool.eq_false_or_eq_true (topicL (L m.topic)) with h0 | h0
  rotate_left
  · exact (.inl ⟨h0, by simp only [carriesM, h0, Bool.false_and]⟩)
  rcases Bool.eq_false_or_eq_true (decide (0 ≤ m.queue)) with h1 | h1
  rotate_left
  · exact (.inr (.inl ⟨h0, h1, by simp only [carriesM, h0, h1, Bool.true_and, Bool.false_and]⟩))
  rcases Bool.eq_false_or_eq_true (decide (m.queue < 3)) with h2 | h2
  rotate_left
  · exact (.inr (.inr (.inl ⟨h0, h1, h2, by simp only [carriesM, h0, h1, h2, Bool.true_and, Bool.false_and]⟩)))
  rcases Bool.eq_false_or_eq_true (decide (0 ≤ m.retry)) with h3 | h3
  rotate_left
  · exact (.inr (.inr (.inr (.inl ⟨h0, h1, h2, h3, by simp only [carriesM, h0, h1, h2, h3, Bool.true_and, Bool.false_and]⟩))))
  rcases Bool.eq_false_or_eq_true (decide (m.retry ≤ 4)) with h4 | h4
  rotate_left
  · exact (.inr (.inr (.inr (.inr (.inl ⟨h0, h1, h2, h3, h4, by simp only [carriesM, h0, h1, h2, h3, h4, Bool.true_and, Bool.false_and]⟩)))))
  rcases Bool.eq_false_or_eq_true (tagL (L m.tag)) with h5 | h5
  rotate_left
  · exact (.inr (.inr (.inr (.inr (.inr (.inl ⟨h0, h1, h2, h3, h4, h5, by simp only [carriesM, h0, h1, h2, h3, h4, h5, Bool.true_and, Bool.false_and]⟩))))))
  rcases Bool.eq_false_or_eq_true (decide ((m.keys.length : Int) ≤ 3)) with h6 | h6
  rotate_left
  · exact (.inr (.inr (.inr (.inr (.inr (.inr (.inl ⟨h0, h1, h2, h3, h4, h5, h6, by simp only [carriesM, h0, h1, h2, h3, h4, h5, h6, Bool.true_and, Bool.false_and]⟩)))))))
  rcases Bool.eq_false_or_eq_true (allB (fun s => keyL (L s)) m.keys) with h7 | h7
  rotate_left
  · exact (.inr (.inr (.inr (.inr (.inr (.inr (.inr (.inl ⟨h0, h1, h2, h3, h4, h5, h6, h7, by simp only [carriesM, h0, h1, h2, h3, h4, h5, h6, h7, Bool.true_and, Bool.false_and]⟩))))))))
  rcases Bool.eq_false_or_eq_true (decide m.keys.Nodup) with h8 | h8
  rotate_left
  · exact (.inr (.inr (.inr (.inr (.inr (.inr (.inr (.inr (.inl ⟨h0, h1, h2, h3, h4, h5, h6, h7, h8, by simp only [carriesM, h0, h1, h2, h3, h4, h5, h6, h7, h8, Bool.true_and, Bool.false_and]⟩)))))))))
  rcases Bool.eq_false_or_eq_true (decide ((m.body.size : Int) ≤ 200)) with h9 | h9
  rotate_left
  · exact (.inr (.inr (.inr (.inr (.inr (.inr (.inr (.inr (.inr (.inl ⟨h0, h1, h2, h3, h4, h5, h6, h7, h8, h9, by simp only [carriesM, h0, h1, h2, h3, h4, h5, h6, h7, h8, h9, Bool.true_and]⟩))))))))))
  exact (.inr (.inr (.inr (.inr (.inr (.inr (.inr (.inr (.inr (.inr ⟨h0, h1, h2, h3, h4, h5, h6, h7, h8, h9, by simp only [carriesM, h0, h1, h2, h3, h4, h5, h6, h7, h8, h9, Bool.true_and]⟩))))))))))


set_option maxHeartbeats 8000000 in
theorem carries_any (m : Msg) (A : Option Addr) (c : Nat) (w : World) (hl : Strs w A m.keys) (hn : m.keys.length * 16 ≤ 140737488355328) (hs : ∀ s ∈ m.keys, s.size ≤ 9223372036854775807) :
    Calls Tryz.prog 20 #[.agg #[.int .i64 m.kind, .int .i64 m.queue, .int .i64 m.due, .int .i64 m.retry, .int .i64 m.ref, .int .i64 m.born, .string m.topic, .string m.tag, .string m.body, .slice A m.keys.length c]] w fun e w' => e = .returned (.bool (carriesM m)) ∧ Below w.heap.size w w' := by
  have HL := Lib.hid hl
  have HS := Lib.hid hs
  clear hl hs
  rcases carries_ways m with ⟨h0, hS⟩ | ⟨h0, h1, hS⟩ | ⟨h0, h1, h2, hS⟩ | ⟨h0, h1, h2, h3, hS⟩ | ⟨h0, h1, h2, h3, h4, hS⟩ | ⟨h0, h1, h2, h3, h4, h5, hS⟩ | ⟨h0, h1, h2, h3, h4, h5, h6, hS⟩ | ⟨h0, h1, h2, h3, h4, h5, h6, h7, hS⟩ | ⟨h0, h1, h2, h3, h4, h5, h6, h7, h8, hS⟩ | ⟨h0, h1, h2, h3, h4, h5, h6, h7, h8, h9, hS⟩ | ⟨h0, h1, h2, h3, h4, h5, h6, h7, h8, h9, hS⟩
  all_goals
    have HR := Lib.hid hS
    clear hS
    have HB := Below.refl w.heap.size w
    go_enter Tryz.func20, Tryz.ntmps20
    go_wp2_with (first
      | (go_at_call 43; refine (topic_any _ _).mono ?_; rintro e w' ⟨rfl, hb⟩; obtain ⟨hc, hf⟩ := bcell hb; have hz : w.heap.size < w'.heap.size := (by have := hb.size; first | omega | (simp at this; omega)); have HB := bstep (by repeat (first | exact HB | apply balloc)) hb)
      | (go_at_call 44; refine (tag_any _ _).mono ?_; rintro e w' ⟨rfl, hb⟩; obtain ⟨hc, hf⟩ := bcell hb; have hz : w.heap.size < w'.heap.size := (by have := hb.size; first | omega | (simp at this; omega)); have HB := bstep HB hb)
      | (go_at_call 45; refine (allKey_any _ _ _ _ (HL.out.below HB) (by omega) HS.out).mono ?_; rintro e w' ⟨rfl, rfl⟩)
      | (go_at_call 47; refine (unlike_any _ _ _ _ (HL.out.below HB) hn).mono ?_; rintro e w' ⟨rfl, hb⟩; obtain ⟨hc, hf⟩ := bcell hb; have hz : w.heap.size < w'.heap.size := (by have := hb.size; first | omega | (simp at this; omega)); have HB := bstep HB hb))
    go_ret
    exact ⟨ret_bool HR.out.symm, HB⟩

end Go.Proofs.YtnlpohcnlmdocaaGreat
