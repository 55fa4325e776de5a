/- What a message carries may be: the document's answer. -/
import Derived.BigQuiet
import Derived.Test.YtnlpohcnlmdocaaGreatRight2
namespace Go.Proofs.YtnlpohcnlmdocaaGreat
open Go.RowKit Go.Shelf
set_option linter.unusedSimpArgs false
set_option linter.unusedVariables false


set_option maxHeartbeats 1000000 in
theorem rKeyN_any (n : Int) (w : World) : Calls Tryz.prog 17 #[.int .i64 n] w fun e w' => e = .returned (.bool (okN n)) ∧ w = w' := by
  rcases Bool.eq_false_or_eq_true (decide (0 ≤ n)) with h | h
  · have HR := Lib.hid (show okN n = decide (n ≤ 1099511627776) by simp only [okN, h, Bool.true_and])
    go_enter Tryz.func17, Tryz.ntmps17
    go_wp2
    go_ret
    exact ⟨ret_bool HR.out.symm, rfl⟩
  · have HR := Lib.hid (show okN n = false by simp only [okN, h, Bool.false_and])
    go_enter Tryz.func17, Tryz.ntmps17
    go_wp2
    go_ret
    exact ⟨ret_bool HR.out.symm, rfl⟩


set_option maxHeartbeats 8000000 in
theorem rcarries_0 (m : Msg) (A : Option Addr) (c : Nat) (w : World) (hl : Strs w A m.keys) (hs : ∀ s ∈ m.keys, s.size ≤ 9223372036854775807) (hz1 : m.topic.size ≤ 9223372036854775807) (hz2 : m.tag.size ≤ 9223372036854775807)  (h : topicL (L m.topic) = false) :
    Calls Tryz.prog 18 #[.agg #[.int .i64 m.kind, .int .i64 m.queue, .int .i64 m.due, .int .i64 m.retry, .int .i64 m.ref, .int .i64 m.born, .string m.topic, .string m.tag, .string m.body, .slice A m.keys.length c]] w fun e w' => e = .returned (.bool (carriesM m)) ∧ Below w.heap.size w w' := by
  have HR := Lib.hid (show carriesM m = false by
    rw [Bool.eq_false_iff]; intro hc
    simp only [carriesM, Bool.and_eq_true, decide_eq_true_eq] at hc
    obtain ⟨a0, a1, a2, a3, a4, a5, a6, a7, a8, a9⟩ := hc
    first | (rw [h] at a0; cases a0) | (rw [h] at a5; cases a5) | (simp only [decide_eq_true_eq] at h; omega))
  clear hl hs
  go_enter Tryz.func18, Tryz.ntmps18
  go_wp2_with (first
    | (go_at_call 38; refine (rTopic_any _ _ hz1).mono ?_; rintro e w' ⟨rfl, rfl⟩)
    | (go_at_call 39; refine (rTag_any _ _ hz2).mono ?_; rintro e w' ⟨rfl, rfl⟩))
  go_ret
  exact ⟨ret_bool HR.out.symm, balloc (Below.refl _ _)⟩


set_option maxHeartbeats 8000000 in
theorem rcarries_1 (m : Msg) (A : Option Addr) (c : Nat) (w : World) (hl : Strs w A m.keys) (hs : ∀ s ∈ m.keys, s.size ≤ 9223372036854775807) (hz1 : m.topic.size ≤ 9223372036854775807) (hz2 : m.tag.size ≤ 9223372036854775807) (h0 : topicL (L m.topic) = true) (h : tagL (L m.tag) = false) :
    Calls Tryz.prog 18 #[.agg #[.int .i64 m.kind, .int .i64 m.queue, .int .i64 m.due, .int .i64 m.retry, .int .i64 m.ref, .int .i64 m.born, .string m.topic, .string m.tag, .string m.body, .slice A m.keys.length c]] w fun e w' => e = .returned (.bool (carriesM m)) ∧ Below w.heap.size w w' := by
  have HR := Lib.hid (show carriesM m = false by
    rw [Bool.eq_false_iff]; intro hc
    simp only [carriesM, Bool.and_eq_true, decide_eq_true_eq] at hc
    obtain ⟨a0, a1, a2, a3, a4, a5, a6, a7, a8, a9⟩ := hc
    first | (rw [h] at a0; cases a0) | (rw [h] at a5; cases a5) | (simp only [decide_eq_true_eq] at h; omega))
  clear hl hs
  go_enter Tryz.func18, Tryz.ntmps18
  go_wp2_with (first
    | (go_at_call 38; refine (rTopic_any _ _ hz1).mono ?_; rintro e w' ⟨rfl, rfl⟩)
    | (go_at_call 39; refine (rTag_any _ _ hz2).mono ?_; rintro e w' ⟨rfl, rfl⟩))
  go_ret
  exact ⟨ret_bool HR.out.symm, balloc (Below.refl _ _)⟩


set_option maxHeartbeats 8000000 in
theorem rcarries_2 (m : Msg) (A : Option Addr) (c : Nat) (w : World) (hl : Strs w A m.keys) (hs : ∀ s ∈ m.keys, s.size ≤ 9223372036854775807) (hz1 : m.topic.size ≤ 9223372036854775807) (hz2 : m.tag.size ≤ 9223372036854775807) (h0 : topicL (L m.topic) = true) (h1 : tagL (L m.tag) = true) (h : decide (m.queue < 0) = true) :
    Calls Tryz.prog 18 #[.agg #[.int .i64 m.kind, .int .i64 m.queue, .int .i64 m.due, .int .i64 m.retry, .int .i64 m.ref, .int .i64 m.born, .string m.topic, .string m.tag, .string m.body, .slice A m.keys.length c]] w fun e w' => e = .returned (.bool (carriesM m)) ∧ Below w.heap.size w w' := by
  have HR := Lib.hid (show carriesM m = false by
    rw [Bool.eq_false_iff]; intro hc
    simp only [carriesM, Bool.and_eq_true, decide_eq_true_eq] at hc
    obtain ⟨a0, a1, a2, a3, a4, a5, a6, a7, a8, a9⟩ := hc
    first | (rw [h] at a0; cases a0) | (rw [h] at a5; cases a5) | (simp only [decide_eq_true_eq] at h; omega))
  clear hl hs
  go_enter Tryz.func18, Tryz.ntmps18
  go_wp2_with (first
    | (go_at_call 38; refine (rTopic_any _ _ hz1).mono ?_; rintro e w' ⟨rfl, rfl⟩)
    | (go_at_call 39; refine (rTag_any _ _ hz2).mono ?_; rintro e w' ⟨rfl, rfl⟩))
  go_ret
  exact ⟨ret_bool HR.out.symm, balloc (Below.refl _ _)⟩


set_option maxHeartbeats 8000000 in
theorem rcarries_3 (m : Msg) (A : Option Addr) (c : Nat) (w : World) (hl : Strs w A m.keys) (hs : ∀ s ∈ m.keys, s.size ≤ 9223372036854775807) (hz1 : m.topic.size ≤ 9223372036854775807) (hz2 : m.tag.size ≤ 9223372036854775807) (h0 : topicL (L m.topic) = true) (h1 : tagL (L m.tag) = true) (h2 : decide (m.queue < 0) = false) (h : decide (2 < m.queue) = true) :
    Calls Tryz.prog 18 #[.agg #[.int .i64 m.kind, .int .i64 m.queue, .int .i64 m.due, .int .i64 m.retry, .int .i64 m.ref, .int .i64 m.born, .string m.topic, .string m.tag, .string m.body, .slice A m.keys.length c]] w fun e w' => e = .returned (.bool (carriesM m)) ∧ Below w.heap.size w w' := by
  have HR := Lib.hid (show carriesM m = false by
    rw [Bool.eq_false_iff]; intro hc
    simp only [carriesM, Bool.and_eq_true, decide_eq_true_eq] at hc
    obtain ⟨a0, a1, a2, a3, a4, a5, a6, a7, a8, a9⟩ := hc
    first | (rw [h] at a0; cases a0) | (rw [h] at a5; cases a5) | (simp only [decide_eq_true_eq] at h; omega))
  clear hl hs
  go_enter Tryz.func18, Tryz.ntmps18
  go_wp2_with (first
    | (go_at_call 38; refine (rTopic_any _ _ hz1).mono ?_; rintro e w' ⟨rfl, rfl⟩)
    | (go_at_call 39; refine (rTag_any _ _ hz2).mono ?_; rintro e w' ⟨rfl, rfl⟩))
  go_ret
  exact ⟨ret_bool HR.out.symm, balloc (Below.refl _ _)⟩


set_option maxHeartbeats 8000000 in
theorem rcarries_4 (m : Msg) (A : Option Addr) (c : Nat) (w : World) (hl : Strs w A m.keys) (hs : ∀ s ∈ m.keys, s.size ≤ 9223372036854775807) (hz1 : m.topic.size ≤ 9223372036854775807) (hz2 : m.tag.size ≤ 9223372036854775807) (h0 : topicL (L m.topic) = true) (h1 : tagL (L m.tag) = true) (h2 : decide (m.queue < 0) = false) (h3 : decide (2 < m.queue) = false) (h : decide (m.retry < 0) = true) :
    Calls Tryz.prog 18 #[.agg #[.int .i64 m.kind, .int .i64 m.queue, .int .i64 m.due, .int .i64 m.retry, .int .i64 m.ref, .int .i64 m.born, .string m.topic, .string m.tag, .string m.body, .slice A m.keys.length c]] w fun e w' => e = .returned (.bool (carriesM m)) ∧ Below w.heap.size w w' := by
  have HR := Lib.hid (show carriesM m = false by
    rw [Bool.eq_false_iff]; intro hc
    simp only [carriesM, Bool.and_eq_true, decide_eq_true_eq] at hc
    obtain ⟨a0, a1, a2, a3, a4, a5, a6, a7, a8, a9⟩ := hc
    first | (rw [h] at a0; cases a0) | (rw [h] at a5; cases a5) | (simp only [decide_eq_true_eq] at h; omega))
  clear hl hs
  go_enter Tryz.func18, Tryz.ntmps18
  go_wp2_with (first
    | (go_at_call 38; refine (rTopic_any _ _ hz1).mono ?_; rintro e w' ⟨rfl, rfl⟩)
    | (go_at_call 39; refine (rTag_any _ _ hz2).mono ?_; rintro e w' ⟨rfl, rfl⟩))
  go_ret
  exact ⟨ret_bool HR.out.symm, balloc (Below.refl _ _)⟩


set_option maxHeartbeats 8000000 in
theorem rcarries_5 (m : Msg) (A : Option Addr) (c : Nat) (w : World) (hl : Strs w A m.keys) (hs : ∀ s ∈ m.keys, s.size ≤ 9223372036854775807) (hz1 : m.topic.size ≤ 9223372036854775807) (hz2 : m.tag.size ≤ 9223372036854775807) (h0 : topicL (L m.topic) = true) (h1 : tagL (L m.tag) = true) (h2 : decide (m.queue < 0) = false) (h3 : decide (2 < m.queue) = false) (h4 : decide (m.retry < 0) = false) (h : decide (4 < m.retry) = true) :
    Calls Tryz.prog 18 #[.agg #[.int .i64 m.kind, .int .i64 m.queue, .int .i64 m.due, .int .i64 m.retry, .int .i64 m.ref, .int .i64 m.born, .string m.topic, .string m.tag, .string m.body, .slice A m.keys.length c]] w fun e w' => e = .returned (.bool (carriesM m)) ∧ Below w.heap.size w w' := by
  have HR := Lib.hid (show carriesM m = false by
    rw [Bool.eq_false_iff]; intro hc
    simp only [carriesM, Bool.and_eq_true, decide_eq_true_eq] at hc
    obtain ⟨a0, a1, a2, a3, a4, a5, a6, a7, a8, a9⟩ := hc
    first | (rw [h] at a0; cases a0) | (rw [h] at a5; cases a5) | (simp only [decide_eq_true_eq] at h; omega))
  clear hl hs
  go_enter Tryz.func18, Tryz.ntmps18
  go_wp2_with (first
    | (go_at_call 38; refine (rTopic_any _ _ hz1).mono ?_; rintro e w' ⟨rfl, rfl⟩)
    | (go_at_call 39; refine (rTag_any _ _ hz2).mono ?_; rintro e w' ⟨rfl, rfl⟩))
  go_ret
  exact ⟨ret_bool HR.out.symm, balloc (Below.refl _ _)⟩


set_option maxHeartbeats 8000000 in
theorem rcarries_6 (m : Msg) (A : Option Addr) (c : Nat) (w : World) (hl : Strs w A m.keys) (hs : ∀ s ∈ m.keys, s.size ≤ 9223372036854775807) (hz1 : m.topic.size ≤ 9223372036854775807) (hz2 : m.tag.size ≤ 9223372036854775807) (h0 : topicL (L m.topic) = true) (h1 : tagL (L m.tag) = true) (h2 : decide (m.queue < 0) = false) (h3 : decide (2 < m.queue) = false) (h4 : decide (m.retry < 0) = false) (h5 : decide (4 < m.retry) = false) (h : decide ((3 : Int) < (m.keys.length : Int)) = true) :
    Calls Tryz.prog 18 #[.agg #[.int .i64 m.kind, .int .i64 m.queue, .int .i64 m.due, .int .i64 m.retry, .int .i64 m.ref, .int .i64 m.born, .string m.topic, .string m.tag, .string m.body, .slice A m.keys.length c]] w fun e w' => e = .returned (.bool (carriesM m)) ∧ Below w.heap.size w w' := by
  have HR := Lib.hid (show carriesM m = false by
    rw [Bool.eq_false_iff]; intro hc
    simp only [carriesM, Bool.and_eq_true, decide_eq_true_eq] at hc
    obtain ⟨a0, a1, a2, a3, a4, a5, a6, a7, a8, a9⟩ := hc
    first | (rw [h] at a0; cases a0) | (rw [h] at a5; cases a5) | (simp only [decide_eq_true_eq] at h; omega))
  clear hl hs
  go_enter Tryz.func18, Tryz.ntmps18
  go_wp2_with (first
    | (go_at_call 38; refine (rTopic_any _ _ hz1).mono ?_; rintro e w' ⟨rfl, rfl⟩)
    | (go_at_call 39; refine (rTag_any _ _ hz2).mono ?_; rintro e w' ⟨rfl, rfl⟩))
  go_ret
  exact ⟨ret_bool HR.out.symm, balloc (Below.refl _ _)⟩


set_option maxHeartbeats 8000000 in
theorem rcarries_7 (m : Msg) (A : Option Addr) (c : Nat) (w : World) (hl : Strs w A m.keys) (hs : ∀ s ∈ m.keys, s.size ≤ 9223372036854775807) (hz1 : m.topic.size ≤ 9223372036854775807) (hz2 : m.tag.size ≤ 9223372036854775807) (h0 : topicL (L m.topic) = true) (h1 : tagL (L m.tag) = true) (h2 : decide (m.queue < 0) = false) (h3 : decide (2 < m.queue) = false) (h4 : decide (m.retry < 0) = false) (h5 : decide (4 < m.retry) = false) (h6 : decide ((3 : Int) < (m.keys.length : Int)) = false) (h : decide ((200 : Int) < (m.body.size : Int)) = true) :
    Calls Tryz.prog 18 #[.agg #[.int .i64 m.kind, .int .i64 m.queue, .int .i64 m.due, .int .i64 m.retry, .int .i64 m.ref, .int .i64 m.born, .string m.topic, .string m.tag, .string m.body, .slice A m.keys.length c]] w fun e w' => e = .returned (.bool (carriesM m)) ∧ Below w.heap.size w w' := by
  have HR := Lib.hid (show carriesM m = false by
    rw [Bool.eq_false_iff]; intro hc
    simp only [carriesM, Bool.and_eq_true, decide_eq_true_eq] at hc
    obtain ⟨a0, a1, a2, a3, a4, a5, a6, a7, a8, a9⟩ := hc
    first | (rw [h] at a0; cases a0) | (rw [h] at a5; cases a5) | (simp only [decide_eq_true_eq] at h; omega))
  clear hl hs
  go_enter Tryz.func18, Tryz.ntmps18
  go_wp2_with (first
    | (go_at_call 38; refine (rTopic_any _ _ hz1).mono ?_; rintro e w' ⟨rfl, rfl⟩)
    | (go_at_call 39; refine (rTag_any _ _ hz2).mono ?_; rintro e w' ⟨rfl, rfl⟩))
  go_ret
  exact ⟨ret_bool HR.out.symm, balloc (Below.refl _ _)⟩


theorem nodup_take {l : List ByteArray} {k : Nat} (h : k < l.length) (hn : (l.take k).Nodup) (hk : ∀ i (_ : i < k), l[i]? ≠ some l[k]) : (l.take (k + 1)).Nodup := by
  rw [List.take_succ_eq_append_getElem h, List.nodup_append]
  refine ⟨hn, by simp, fun a ha b hb => ?_⟩
  simp at hb; subst hb
  obtain ⟨i, hi, e⟩ := List.getElem_of_mem ha
  rw [List.length_take] at hi
  rw [List.getElem_take] at e
  intro e2
  exact hk i (by omega) (by rw [List.getElem?_eq_getElem (by omega), e, e2])
theorem nodup_bad {l : List ByteArray} {i k : Nat} (hk : k < l.length) (hi : i < k) (he : l[i]'(by omega) = l[k]) : decide l.Nodup = false := by
  rw [decide_eq_false_iff_not]; intro hn
  have := (List.pairwise_iff_getElem.mp hn) i k (by omega) hk hi
  exact this he
/-- What a round of the loop over keys knows. -/
def KeysTo (l : List ByteArray) (k : Nat) : Prop := (l.take k).all (fun s => keyL (L s)) = true ∧ (l.take k).Nodup
/-- What a round of the inner loop knows. -/
def UnlikeTo (l : List ByteArray) (k n : Nat) : Prop := ∀ i, i < n → l[i]? ≠ l[k]?
theorem unlike_next {l : List ByteArray} {k n : Nat} (hk : k < l.length) (hn : n < k) (h : UnlikeTo l k n) (hx : ((l[n]'(by omega)).toList == l[k].toList) = false) : UnlikeTo l k (n + 1) := by
  intro i hi
  rcases Nat.lt_or_ge i n with h1 | h1
  · exact h i h1
  · have : i = n := by omega
    subst this
    rw [List.getElem?_eq_getElem (by omega), List.getElem?_eq_getElem hk]
    intro e; injection e with e; rw [e] at hx; simp at hx
theorem keys_next {l : List ByteArray} {k : Nat} (hk : k < l.length) (h : KeysTo l k) (hx : keyL (L l[k]) = true) (hu : UnlikeTo l k k) : KeysTo l (k + 1) :=
  ⟨all_take (p := fun s => keyL (L s)) hk h.1 hx, nodup_take hk h.2 (fun i hi => by have := hu i hi; rwa [List.getElem?_eq_getElem hk] at this)⟩


set_option maxHeartbeats 8000000 in
theorem rcarries_k (m : Msg) (A : Option Addr) (c : Nat) (w : World) (hl : Strs w A m.keys) (hs : ∀ s ∈ m.keys, s.size ≤ 9223372036854775807) (hz1 : m.topic.size ≤ 9223372036854775807) (hz2 : m.tag.size ≤ 9223372036854775807) (h0 : topicL (L m.topic) = true) (h1 : tagL (L m.tag) = true) (h2 : decide (m.queue < 0) = false) (h3 : decide (2 < m.queue) = false) (h4 : decide (m.retry < 0) = false) (h5 : decide (4 < m.retry) = false) (h6 : decide ((3 : Int) < (m.keys.length : Int)) = false) (h7 : decide ((200 : Int) < (m.body.size : Int)) = false) :
    Calls Tryz.prog 18 #[.agg #[.int .i64 m.kind, .int .i64 m.queue, .int .i64 m.due, .int .i64 m.retry, .int .i64 m.ref, .int .i64 m.born, .string m.topic, .string m.tag, .string m.body, .slice A m.keys.length c]] w fun e w' => e = .returned (.bool (carriesM m)) ∧ Below w.heap.size w w' := by
  have HR := Lib.hid (show carriesM m = (allB (fun s => keyL (L s)) m.keys && decide m.keys.Nodup) by
    simp only [decide_eq_false_iff_not] at h2 h3 h4 h5 h6 h7
    have e1 : decide (0 ≤ m.queue) = true := decide_eq_true (by omega)
    have e2 : decide (m.queue < 3) = true := decide_eq_true (by omega)
    have e3 : decide (0 ≤ m.retry) = true := decide_eq_true (by omega)
    have e4 : decide (m.retry ≤ 4) = true := decide_eq_true (by omega)
    have e5 : decide ((m.keys.length : Int) ≤ 3) = true := decide_eq_true (by omega)
    have e6 : decide ((m.body.size : Int) ≤ 200) = true := decide_eq_true (by omega)
    simp only [carriesM, h0, h1, e1, e2, e3, e4, e5, e6, Bool.true_and, Bool.and_true])
  have HN := Lib.hid (show m.keys.length ≤ 3 by simp at h6; omega)
  have HL := Lib.hid (hl.below (balloc (o := .cells #[.int .i64 m.kind, .int .i64 m.queue, .int .i64 m.due, .int .i64 m.retry, .int .i64 m.ref, .int .i64 m.born, .string m.topic, .string m.tag, .string m.body, .slice A m.keys.length c] 24) (Below.refl w.heap.size w)))
  have HS := Lib.hid hs
  clear hl hs
  go_enter Tryz.func18, Tryz.ntmps18
  go_wp2_with (first
    | (go_at_call 38; refine (rTopic_any _ _ hz1).mono ?_; rintro e w' ⟨rfl, rfl⟩)
    | (go_at_call 39; refine (rTag_any _ _ hz2).mono ?_; rintro e w' ⟨rfl, rfl⟩))
  go_loopw [3] (fun i wr => ∃ k : Nat, k ≤ m.keys.length ∧ i = .int .i64 k ∧ Hid (KeysTo m.keys k) ∧ Drn (w.alloc (.cells #[.int .i64 m.kind, .int .i64 m.queue, .int .i64 m.due, .int .i64 m.retry, .int .i64 m.ref, .int .i64 m.born, .string m.topic, .string m.tag, .string m.body, .slice A m.keys.length c] 24)) wr) (fun i _ => m.keys.length - (intOf i).toNat)
  case atStart => exact ⟨0, Nat.zero_le _, rfl, ⟨rfl, List.nodup_nil⟩, Drn.refl _⟩
  case round =>
    obtain ⟨k, hk, rfl, HA, hD⟩ := hrel
    have hD' := hD
    obtain ⟨q, rfl⟩ := hD
    have h3 := HN.out
    by_cases hlt : k < m.keys.length
    · obtain ⟨b, o, rfl, hc⟩ := HL.out (by intro e; rw [e] at hlt; simp at hlt)
      have HC := Lib.hid hc
      have hck := hc k hlt
      have hsk := HS.out m.keys[k] (List.getElem_mem hlt)
      obtain ⟨x, hx⟩ : ∃ x, m.keys[k] = x := ⟨_, rfl⟩
      rw [hx] at hck hsk
      have HX := Lib.hid hx
      clear hc hx
      rcases Bool.eq_false_or_eq_true (keyL (L x)) with hK | hK
      · go_wp2_with (go_at_call 40; refine (rKey_any _ _ hsk).mono ?_; rintro e w' ⟨rfl, rfl⟩)
        go_loopw [4] (fun j wr => ∃ n : Nat, n ≤ k ∧ j = .int .i64 n ∧ Hid (UnlikeTo m.keys k n) ∧ Drn (w.alloc (.cells #[.int .i64 m.kind, .int .i64 m.queue, .int .i64 m.due, .int .i64 m.retry, .int .i64 m.ref, .int .i64 m.born, .string m.topic, .string m.tag, .string m.body, .slice (some ⟨b, o, none⟩) m.keys.length c] 24)) wr) (fun j _ => k - (intOf j).toNat)
        case atStart => exact ⟨0, Nat.zero_le _, rfl, (fun i hi => absurd hi (Nat.not_lt_zero _)), hD'⟩
        case round =>
          obtain ⟨n, hn, rfl, HU, hE⟩ := hrel
          have hE' := hE
          obtain ⟨q', rfl⟩ := hE
          by_cases hnk : n < k
          · have hcn := HC.out n (by omega)
            obtain ⟨y, hy⟩ : ∃ y, m.keys[n]'(by omega) = y := ⟨_, rfl⟩
            rw [hy] at hcn
            have HY := Lib.hid hy
            clear hy
            rcases (Bool.eq_false_or_eq_true (y.toList == x.toList)).symm with hX | hX
            · go_wp2
              go_quiet (fail)
              go_wp2
              go_roundw
              case rel => exact ⟨n + 1, by omega, by go_num, unlike_next hlt hnk HU.out (by rw [HY.out, HX.out]; exact hX), by first | exact hE' | exact Drn.of _ _⟩
              case measure => simp [intOf]; omega
            · have HK := Lib.hid (nodup_bad hlt hnk (by rw [HY.out, HX.out]; apply L_inj; rw [L_of, L_of] at hX; simpa using hX))
              go_wp2
              go_quiet (fail)
              go_wp2
              go_ret
              exact ⟨ret_bool (by rw [HR.out, HK.out, Bool.and_false]), by repeat (first | exact Below.refl _ _ | apply bdrewN | apply balloc)⟩
          · have hnk' : n = k := by omega
            subst hnk'
            go_wp2
            go_roundw
            case rel => exact ⟨n + 1, by omega, by go_num, keys_next hlt HA.out (by rw [HX.out]; exact hK) HU.out, hE'⟩
            case measure => simp [intOf]; omega
      · have HK := Lib.hid (all_bad (p := fun s => keyL (L s)) hlt (by rw [HX.out]; exact hK))
        go_wp2_with (go_at_call 40; refine (rKey_any _ _ hsk).mono ?_; rintro e w' ⟨rfl, rfl⟩)
        go_ret
        exact ⟨ret_bool (by rw [HR.out]; unfold allB; rw [← HK.out, Bool.false_and]), (balloc (Below.refl _ _)).trans (hD'.below.mono (by simp))⟩
    · have HK := Lib.hid (all_good hlt HA.out.1)
      have HK2 := Lib.hid (show decide m.keys.Nodup = true by have := HA.out.2; rw [List.take_of_length_le (by omega)] at this; exact decide_eq_true this)
      go_wp2
      go_ret
      exact ⟨ret_bool (by rw [HR.out, HK2.out]; unfold allB; rw [← HK.out]; rfl), (balloc (Below.refl _ _)).trans (hD'.below.mono (by simp))⟩


theorem rcarries_any (m : Msg) (A : Option Addr) (c : Nat) (w : World) (hl : Strs w A m.keys) (hs : ∀ s ∈ m.keys, s.size ≤ 9223372036854775807) (hz1 : m.topic.size ≤ 9223372036854775807) (hz2 : m.tag.size ≤ 9223372036854775807) :
    Calls Tryz.prog 18 #[.agg #[.int .i64 m.kind, .int .i64 m.queue, .int .i64 m.due, .int .i64 m.retry, .int .i64 m.ref, .int .i64 m.born, .string m.topic, .string m.tag, .string m.body, .slice A m.keys.length c]] w fun e w' => e = .returned (.bool (carriesM m)) ∧ Below w.heap.size w w' := by
  rcases Bool.eq_false_or_eq_true (topicL (L m.topic)) with h0 | h0
  rotate_left
  · exact rcarries_0 m A c w hl hs hz1 hz2 h0
  rcases Bool.eq_false_or_eq_true (tagL (L m.tag)) with h1 | h1
  rotate_left
  · exact rcarries_1 m A c w hl hs hz1 hz2 h0 h1
  rcases Bool.eq_false_or_eq_true (decide (m.queue < 0)) with h2 | h2
  · exact rcarries_2 m A c w hl hs hz1 hz2 h0 h1 h2
  rcases Bool.eq_false_or_eq_true (decide (2 < m.queue)) with h3 | h3
  · exact rcarries_3 m A c w hl hs hz1 hz2 h0 h1 h2 h3
  rcases Bool.eq_false_or_eq_true (decide (m.retry < 0)) with h4 | h4
  · exact rcarries_4 m A c w hl hs hz1 hz2 h0 h1 h2 h3 h4
  rcases Bool.eq_false_or_eq_true (decide (4 < m.retry)) with h5 | h5
  · exact rcarries_5 m A c w hl hs hz1 hz2 h0 h1 h2 h3 h4 h5
  rcases Bool.eq_false_or_eq_true (decide ((3 : Int) < (m.keys.length : Int))) with h6 | h6
  · exact rcarries_6 m A c w hl hs hz1 hz2 h0 h1 h2 h3 h4 h5 h6
  rcases Bool.eq_false_or_eq_true (decide ((200 : Int) < (m.body.size : Int))) with h7 | h7
  · exact rcarries_7 m A c w hl hs hz1 hz2 h0 h1 h2 h3 h4 h5 h6 h7
  exact rcarries_k m A c w hl hs hz1 hz2 h0 h1 h2 h3 h4 h5 h6 h7

end Go.Proofs.YtnlpohcnlmdocaaGreat
