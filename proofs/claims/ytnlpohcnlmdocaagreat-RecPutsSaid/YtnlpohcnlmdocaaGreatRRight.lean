/- What record may be: the document's answer. -/
import Derived.Test.YtnlpohcnlmdocaaGreatRCarries
namespace Go.Proofs.YtnlpohcnlmdocaaGreat
open Go.RowKit Go.Shelf
set_option linter.unusedSimpArgs false
set_option linter.unusedVariables false


theorem nums_eq (m : Msg) : numsM m = (okN m.due && (okN m.ref && okN m.born)) := by simp [numsM, allI]
theorem empty_iff (s : ByteArray) : s.toList.isEmpty = (s.toList == (⟨#[]⟩ : ByteArray).toList) := by
  rw [L_empty, Bool.eq_iff_iff, decide_eq_true_iff, beq_iff_eq]
  constructor
  · intro h
    have : s = ⟨#[]⟩ := by
      apply L_inj
      have h1 : (L s).length = 0 := by rw [L_len]; exact h
      rw [List.length_eq_zero_iff.mp h1]; rfl
    rw [this]
  · intro h
    rw [L_of, L_of] at h
    rw [← L_len, h]; rfl


set_option maxHeartbeats 8000000 in
theorem rright_n0 (m : Msg) (A : Option Addr) (c : Nat) (w : World) (hl : Strs w A m.keys) (hs : ∀ s ∈ m.keys, s.size ≤ 9223372036854775807) (hz1 : m.topic.size ≤ 9223372036854775807) (hz2 : m.tag.size ≤ 9223372036854775807) (hz3 : m.body.size ≤ 9223372036854775806) (n0 : okN m.due = false) :
    Calls Tryz.prog 7 #[.agg #[.int .i64 m.kind, .int .i64 m.queue, .int .i64 m.due, .int .i64 m.retry, .int .i64 m.ref, .int .i64 m.born, .string m.topic, .string m.tag, .string m.body, .slice A m.keys.length c]] w fun e w' => e = .returned (.bool (rightM m)) ∧ Below w.heap.size w w' := by
  have HR := Lib.hid (show rightM m = false by simp only [rightM, nums_eq, n0, Bool.and_true, Bool.true_and, Bool.false_and, Bool.and_false, if_true, if_false, Bool.false_eq_true, reduceIte])
  have HB : Below w.heap.size w (w.alloc (.cells #[.int .i64 m.kind, .int .i64 m.queue, .int .i64 m.due, .int .i64 m.retry, .int .i64 m.ref, .int .i64 m.born, .string m.topic, .string m.tag, .string m.body, .slice A m.keys.length c] 24)) := balloc (Below.refl _ _)
  have HL := Lib.hid (hl.below HB)
  have HS := Lib.hid hs
  clear hl hs
  go_enter Tryz.func7, Tryz.ntmps7
  go_wp2_with (first
    | (go_at_call 17; refine (rKeyN_any _ _).mono ?_; rintro e w' ⟨rfl, rfl⟩)
    | (go_at_call 18; refine (rcarries_any m A c _ HL.out HS.out hz1 hz2).mono ?_; rintro e w' ⟨rfl, hb⟩; obtain ⟨hc, hf⟩ := bcell hb; have HB : Below w.heap.size w w' := bstep HB hb))
  go_ret
  exact ⟨ret_bool HR.out.symm, HB⟩


set_option maxHeartbeats 8000000 in
theorem rright_n1 (m : Msg) (A : Option Addr) (c : Nat) (w : World) (hl : Strs w A m.keys) (hs : ∀ s ∈ m.keys, s.size ≤ 9223372036854775807) (hz1 : m.topic.size ≤ 9223372036854775807) (hz2 : m.tag.size ≤ 9223372036854775807) (hz3 : m.body.size ≤ 9223372036854775806) (n0 : okN m.due = true) (n1 : okN m.ref = false) :
    Calls Tryz.prog 7 #[.agg #[.int .i64 m.kind, .int .i64 m.queue, .int .i64 m.due, .int .i64 m.retry, .int .i64 m.ref, .int .i64 m.born, .string m.topic, .string m.tag, .string m.body, .slice A m.keys.length c]] w fun e w' => e = .returned (.bool (rightM m)) ∧ Below w.heap.size w w' := by
  have HR := Lib.hid (show rightM m = false by simp only [rightM, nums_eq, n0, n1, Bool.and_true, Bool.true_and, Bool.false_and, Bool.and_false, if_true, if_false, Bool.false_eq_true, reduceIte])
  have HB : Below w.heap.size w (w.alloc (.cells #[.int .i64 m.kind, .int .i64 m.queue, .int .i64 m.due, .int .i64 m.retry, .int .i64 m.ref, .int .i64 m.born, .string m.topic, .string m.tag, .string m.body, .slice A m.keys.length c] 24)) := balloc (Below.refl _ _)
  have HL := Lib.hid (hl.below HB)
  have HS := Lib.hid hs
  clear hl hs
  go_enter Tryz.func7, Tryz.ntmps7
  go_wp2_with (first
    | (go_at_call 17; refine (rKeyN_any _ _).mono ?_; rintro e w' ⟨rfl, rfl⟩)
    | (go_at_call 18; refine (rcarries_any m A c _ HL.out HS.out hz1 hz2).mono ?_; rintro e w' ⟨rfl, hb⟩; obtain ⟨hc, hf⟩ := bcell hb; have HB : Below w.heap.size w w' := bstep HB hb))
  go_ret
  exact ⟨ret_bool HR.out.symm, HB⟩


set_option maxHeartbeats 8000000 in
theorem rright_n2 (m : Msg) (A : Option Addr) (c : Nat) (w : World) (hl : Strs w A m.keys) (hs : ∀ s ∈ m.keys, s.size ≤ 9223372036854775807) (hz1 : m.topic.size ≤ 9223372036854775807) (hz2 : m.tag.size ≤ 9223372036854775807) (hz3 : m.body.size ≤ 9223372036854775806) (n0 : okN m.due = true) (n1 : okN m.ref = true) (n2 : okN m.born = false) :
    Calls Tryz.prog 7 #[.agg #[.int .i64 m.kind, .int .i64 m.queue, .int .i64 m.due, .int .i64 m.retry, .int .i64 m.ref, .int .i64 m.born, .string m.topic, .string m.tag, .string m.body, .slice A m.keys.length c]] w fun e w' => e = .returned (.bool (rightM m)) ∧ Below w.heap.size w w' := by
  have HR := Lib.hid (show rightM m = false by simp only [rightM, nums_eq, n0, n1, n2, Bool.and_true, Bool.true_and, Bool.false_and, Bool.and_false, if_true, if_false, Bool.false_eq_true, reduceIte])
  have HB : Below w.heap.size w (w.alloc (.cells #[.int .i64 m.kind, .int .i64 m.queue, .int .i64 m.due, .int .i64 m.retry, .int .i64 m.ref, .int .i64 m.born, .string m.topic, .string m.tag, .string m.body, .slice A m.keys.length c] 24)) := balloc (Below.refl _ _)
  have HL := Lib.hid (hl.below HB)
  have HS := Lib.hid hs
  clear hl hs
  go_enter Tryz.func7, Tryz.ntmps7
  go_wp2_with (first
    | (go_at_call 17; refine (rKeyN_any _ _).mono ?_; rintro e w' ⟨rfl, rfl⟩)
    | (go_at_call 18; refine (rcarries_any m A c _ HL.out HS.out hz1 hz2).mono ?_; rintro e w' ⟨rfl, hb⟩; obtain ⟨hc, hf⟩ := bcell hb; have HB : Below w.heap.size w w' := bstep HB hb))
  go_ret
  exact ⟨ret_bool HR.out.symm, HB⟩


set_option maxHeartbeats 8000000 in
theorem rright_1a (m : Msg) (A : Option Addr) (c : Nat) (w : World) (hl : Strs w A m.keys) (hs : ∀ s ∈ m.keys, s.size ≤ 9223372036854775807) (hz1 : m.topic.size ≤ 9223372036854775807) (hz2 : m.tag.size ≤ 9223372036854775807) (hz3 : m.body.size ≤ 9223372036854775806) (n0 : okN m.due = true) (n1 : okN m.ref = true) (n2 : okN m.born = true) (k1 : (m.kind == 1) = true) (k2 : (m.kind == 2) = false) (k3 : (m.kind == 3) = false) (k4 : (m.kind == 4) = false) (k0 : (m.kind == 0) = false) (f1 : carriesM m = false) :
    Calls Tryz.prog 7 #[.agg #[.int .i64 m.kind, .int .i64 m.queue, .int .i64 m.due, .int .i64 m.retry, .int .i64 m.ref, .int .i64 m.born, .string m.topic, .string m.tag, .string m.body, .slice A m.keys.length c]] w fun e w' => e = .returned (.bool (rightM m)) ∧ Below w.heap.size w w' := by
  have HR := Lib.hid (show rightM m = false by simp only [rightM, nums_eq, n0, n1, n2, k1, k2, k3, k4, k0, f1, Bool.and_true, Bool.true_and, Bool.false_and, Bool.and_false, if_true, if_false, Bool.false_eq_true, reduceIte])
  have HB : Below w.heap.size w (w.alloc (.cells #[.int .i64 m.kind, .int .i64 m.queue, .int .i64 m.due, .int .i64 m.retry, .int .i64 m.ref, .int .i64 m.born, .string m.topic, .string m.tag, .string m.body, .slice A m.keys.length c] 24)) := balloc (Below.refl _ _)
  have HL := Lib.hid (hl.below HB)
  have HS := Lib.hid hs
  clear hl hs
  go_enter Tryz.func7, Tryz.ntmps7
  go_wp2_with (first
    | (go_at_call 17; refine (rKeyN_any _ _).mono ?_; rintro e w' ⟨rfl, rfl⟩)
    | (go_at_call 18; refine (rcarries_any m A c _ HL.out HS.out hz1 hz2).mono ?_; rintro e w' ⟨rfl, hb⟩; obtain ⟨hc, hf⟩ := bcell hb; have HB : Below w.heap.size w w' := bstep HB hb))
  go_ret
  exact ⟨ret_bool HR.out.symm, HB⟩


set_option maxHeartbeats 8000000 in
theorem rright_1b (m : Msg) (A : Option Addr) (c : Nat) (w : World) (hl : Strs w A m.keys) (hs : ∀ s ∈ m.keys, s.size ≤ 9223372036854775807) (hz1 : m.topic.size ≤ 9223372036854775807) (hz2 : m.tag.size ≤ 9223372036854775807) (hz3 : m.body.size ≤ 9223372036854775806) (n0 : okN m.due = true) (n1 : okN m.ref = true) (n2 : okN m.born = true) (k1 : (m.kind == 1) = true) (k2 : (m.kind == 2) = false) (k3 : (m.kind == 3) = false) (k4 : (m.kind == 4) = false) (k0 : (m.kind == 0) = false) (f1 : carriesM m = true) (f2 : (m.due == 0) = false) :
    Calls Tryz.prog 7 #[.agg #[.int .i64 m.kind, .int .i64 m.queue, .int .i64 m.due, .int .i64 m.retry, .int .i64 m.ref, .int .i64 m.born, .string m.topic, .string m.tag, .string m.body, .slice A m.keys.length c]] w fun e w' => e = .returned (.bool (rightM m)) ∧ Below w.heap.size w w' := by
  have HR := Lib.hid (show rightM m = false by simp only [rightM, nums_eq, n0, n1, n2, k1, k2, k3, k4, k0, f1, f2, Bool.and_true, Bool.true_and, Bool.false_and, Bool.and_false, if_true, if_false, Bool.false_eq_true, reduceIte])
  have HB : Below w.heap.size w (w.alloc (.cells #[.int .i64 m.kind, .int .i64 m.queue, .int .i64 m.due, .int .i64 m.retry, .int .i64 m.ref, .int .i64 m.born, .string m.topic, .string m.tag, .string m.body, .slice A m.keys.length c] 24)) := balloc (Below.refl _ _)
  have HL := Lib.hid (hl.below HB)
  have HS := Lib.hid hs
  clear hl hs
  go_enter Tryz.func7, Tryz.ntmps7
  go_wp2_with (first
    | (go_at_call 17; refine (rKeyN_any _ _).mono ?_; rintro e w' ⟨rfl, rfl⟩)
    | (go_at_call 18; refine (rcarries_any m A c _ HL.out HS.out hz1 hz2).mono ?_; rintro e w' ⟨rfl, hb⟩; obtain ⟨hc, hf⟩ := bcell hb; have HB : Below w.heap.size w w' := bstep HB hb))
  go_ret
  exact ⟨ret_bool HR.out.symm, HB⟩


set_option maxHeartbeats 8000000 in
theorem rright_1c (m : Msg) (A : Option Addr) (c : Nat) (w : World) (hl : Strs w A m.keys) (hs : ∀ s ∈ m.keys, s.size ≤ 9223372036854775807) (hz1 : m.topic.size ≤ 9223372036854775807) (hz2 : m.tag.size ≤ 9223372036854775807) (hz3 : m.body.size ≤ 9223372036854775806) (n0 : okN m.due = true) (n1 : okN m.ref = true) (n2 : okN m.born = true) (k1 : (m.kind == 1) = true) (k2 : (m.kind == 2) = false) (k3 : (m.kind == 3) = false) (k4 : (m.kind == 4) = false) (k0 : (m.kind == 0) = false) (f1 : carriesM m = true) (f2 : (m.due == 0) = true) :
    Calls Tryz.prog 7 #[.agg #[.int .i64 m.kind, .int .i64 m.queue, .int .i64 m.due, .int .i64 m.retry, .int .i64 m.ref, .int .i64 m.born, .string m.topic, .string m.tag, .string m.body, .slice A m.keys.length c]] w fun e w' => e = .returned (.bool (rightM m)) ∧ Below w.heap.size w w' := by
  have HR := Lib.hid (show rightM m = (m.ref == 0) by simp only [rightM, nums_eq, n0, n1, n2, k1, k2, k3, k4, k0, f1, f2, Bool.and_true, Bool.true_and, Bool.false_and, Bool.and_false, if_true, if_false, Bool.false_eq_true, reduceIte])
  have HB : Below w.heap.size w (w.alloc (.cells #[.int .i64 m.kind, .int .i64 m.queue, .int .i64 m.due, .int .i64 m.retry, .int .i64 m.ref, .int .i64 m.born, .string m.topic, .string m.tag, .string m.body, .slice A m.keys.length c] 24)) := balloc (Below.refl _ _)
  have HL := Lib.hid (hl.below HB)
  have HS := Lib.hid hs
  clear hl hs
  go_enter Tryz.func7, Tryz.ntmps7
  go_wp2_with (first
    | (go_at_call 17; refine (rKeyN_any _ _).mono ?_; rintro e w' ⟨rfl, rfl⟩)
    | (go_at_call 18; refine (rcarries_any m A c _ HL.out HS.out hz1 hz2).mono ?_; rintro e w' ⟨rfl, hb⟩; obtain ⟨hc, hf⟩ := bcell hb; have HB : Below w.heap.size w w' := bstep HB hb))
  go_ret
  exact ⟨ret_bool HR.out.symm, HB⟩


set_option maxHeartbeats 8000000 in
theorem rright_2 (m : Msg) (A : Option Addr) (c : Nat) (w : World) (hl : Strs w A m.keys) (hs : ∀ s ∈ m.keys, s.size ≤ 9223372036854775807) (hz1 : m.topic.size ≤ 9223372036854775807) (hz2 : m.tag.size ≤ 9223372036854775807) (hz3 : m.body.size ≤ 9223372036854775806) (n0 : okN m.due = true) (n1 : okN m.ref = true) (n2 : okN m.born = true) (k1 : (m.kind == 1) = false) (k2 : (m.kind == 2) = true) (k3 : (m.kind == 3) = false) (k4 : (m.kind == 4) = false) (k0 : (m.kind == 0) = false) :
    Calls Tryz.prog 7 #[.agg #[.int .i64 m.kind, .int .i64 m.queue, .int .i64 m.due, .int .i64 m.retry, .int .i64 m.ref, .int .i64 m.born, .string m.topic, .string m.tag, .string m.body, .slice A m.keys.length c]] w fun e w' => e = .returned (.bool (rightM m)) ∧ Below w.heap.size w w' := by
  have HR := Lib.hid (show rightM m = carriesM m by simp only [rightM, nums_eq, n0, n1, n2, k1, k2, k3, k4, k0, Bool.and_true, Bool.true_and, Bool.false_and, Bool.and_false, if_true, if_false, Bool.false_eq_true, reduceIte])
  have HB : Below w.heap.size w (w.alloc (.cells #[.int .i64 m.kind, .int .i64 m.queue, .int .i64 m.due, .int .i64 m.retry, .int .i64 m.ref, .int .i64 m.born, .string m.topic, .string m.tag, .string m.body, .slice A m.keys.length c] 24)) := balloc (Below.refl _ _)
  have HL := Lib.hid (hl.below HB)
  have HS := Lib.hid hs
  clear hl hs
  go_enter Tryz.func7, Tryz.ntmps7
  go_wp2_with (first
    | (go_at_call 17; refine (rKeyN_any _ _).mono ?_; rintro e w' ⟨rfl, rfl⟩)
    | (go_at_call 18; refine (rcarries_any m A c _ HL.out HS.out hz1 hz2).mono ?_; rintro e w' ⟨rfl, hb⟩; obtain ⟨hc, hf⟩ := bcell hb; have HB : Below w.heap.size w w' := bstep HB hb))
  go_ret
  exact ⟨ret_bool HR.out.symm, HB⟩


set_option maxHeartbeats 8000000 in
theorem rright_3 (m : Msg) (A : Option Addr) (c : Nat) (w : World) (hl : Strs w A m.keys) (hs : ∀ s ∈ m.keys, s.size ≤ 9223372036854775807) (hz1 : m.topic.size ≤ 9223372036854775807) (hz2 : m.tag.size ≤ 9223372036854775807) (hz3 : m.body.size ≤ 9223372036854775806) (n0 : okN m.due = true) (n1 : okN m.ref = true) (n2 : okN m.born = true) (k1 : (m.kind == 1) = false) (k2 : (m.kind == 2) = false) (k3 : (m.kind == 3) = true) (k4 : (m.kind == 4) = false) (k0 : (m.kind == 0) = false) :
    Calls Tryz.prog 7 #[.agg #[.int .i64 m.kind, .int .i64 m.queue, .int .i64 m.due, .int .i64 m.retry, .int .i64 m.ref, .int .i64 m.born, .string m.topic, .string m.tag, .string m.body, .slice A m.keys.length c]] w fun e w' => e = .returned (.bool (rightM m)) ∧ Below w.heap.size w w' := by
  have HR := Lib.hid (show rightM m = carriesM m by simp only [rightM, nums_eq, n0, n1, n2, k1, k2, k3, k4, k0, Bool.and_true, Bool.true_and, Bool.false_and, Bool.and_false, if_true, if_false, Bool.false_eq_true, reduceIte])
  have HB : Below w.heap.size w (w.alloc (.cells #[.int .i64 m.kind, .int .i64 m.queue, .int .i64 m.due, .int .i64 m.retry, .int .i64 m.ref, .int .i64 m.born, .string m.topic, .string m.tag, .string m.body, .slice A m.keys.length c] 24)) := balloc (Below.refl _ _)
  have HL := Lib.hid (hl.below HB)
  have HS := Lib.hid hs
  clear hl hs
  go_enter Tryz.func7, Tryz.ntmps7
  go_wp2_with (first
    | (go_at_call 17; refine (rKeyN_any _ _).mono ?_; rintro e w' ⟨rfl, rfl⟩)
    | (go_at_call 18; refine (rcarries_any m A c _ HL.out HS.out hz1 hz2).mono ?_; rintro e w' ⟨rfl, hb⟩; obtain ⟨hc, hf⟩ := bcell hb; have HB : Below w.heap.size w w' := bstep HB hb))
  go_ret
  exact ⟨ret_bool HR.out.symm, HB⟩


set_option maxHeartbeats 8000000 in
theorem rright_o0 (m : Msg) (A : Option Addr) (c : Nat) (w : World) (hl : Strs w A m.keys) (hs : ∀ s ∈ m.keys, s.size ≤ 9223372036854775807) (hz1 : m.topic.size ≤ 9223372036854775807) (hz2 : m.tag.size ≤ 9223372036854775807) (hz3 : m.body.size ≤ 9223372036854775806) (n0 : okN m.due = true) (n1 : okN m.ref = true) (n2 : okN m.born = true) (k1 : (m.kind == 1) = false) (k2 : (m.kind == 2) = false) (k3 : (m.kind == 3) = false) (g0 : (m.queue != 0) = true) :
    Calls Tryz.prog 7 #[.agg #[.int .i64 m.kind, .int .i64 m.queue, .int .i64 m.due, .int .i64 m.retry, .int .i64 m.ref, .int .i64 m.born, .string m.topic, .string m.tag, .string m.body, .slice A m.keys.length c]] w fun e w' => e = .returned (.bool (rightM m)) ∧ Below w.heap.size w w' := by
  have HR := Lib.hid (show rightM m = false by 
    rw [Bool.eq_false_iff]; intro hr
    simp only [rightM, nums_eq, n0, n1, n2, k1, k2, k3, Bool.and_true, Bool.true_and, Bool.false_eq_true, if_false, if_true, reduceIte] at hr
    split at hr
    · simp only [sameM, cancelM, Bool.and_eq_true, beq_iff_eq, decide_eq_true_eq] at hr
      obtain ⟨-, a1, a2, a3, -, -, a6, a7, -, a9⟩ := hr
      (rw [a1] at g0; cases g0)
    · split at hr
      · simp only [fillM, sameM, bareM, Bool.and_eq_true, beq_iff_eq, decide_eq_true_eq] at hr
        obtain ⟨-, -, -, a1, a2, a3, -, -, a6, a7, -, a9⟩ := hr
        (rw [a1] at g0; cases g0)
      · cases hr)
  have HB : Below w.heap.size w (w.alloc (.cells #[.int .i64 m.kind, .int .i64 m.queue, .int .i64 m.due, .int .i64 m.retry, .int .i64 m.ref, .int .i64 m.born, .string m.topic, .string m.tag, .string m.body, .slice A m.keys.length c] 24)) := balloc (Below.refl _ _)
  have HL := Lib.hid (hl.below HB)
  have HS := Lib.hid hs
  clear hl hs
  go_enter Tryz.func7, Tryz.ntmps7
  go_wp2_with (first
    | (go_at_call 17; refine (rKeyN_any _ _).mono ?_; rintro e w' ⟨rfl, rfl⟩)
    | (go_at_call 18; refine (rcarries_any m A c _ HL.out HS.out hz1 hz2).mono ?_; rintro e w' ⟨rfl, hb⟩; obtain ⟨hc, hf⟩ := bcell hb; have HB : Below w.heap.size w w' := bstep HB hb))
  go_ret
  exact ⟨ret_bool HR.out.symm, HB⟩


set_option maxHeartbeats 8000000 in
theorem rright_o1 (m : Msg) (A : Option Addr) (c : Nat) (w : World) (hl : Strs w A m.keys) (hs : ∀ s ∈ m.keys, s.size ≤ 9223372036854775807) (hz1 : m.topic.size ≤ 9223372036854775807) (hz2 : m.tag.size ≤ 9223372036854775807) (hz3 : m.body.size ≤ 9223372036854775806) (n0 : okN m.due = true) (n1 : okN m.ref = true) (n2 : okN m.born = true) (k1 : (m.kind == 1) = false) (k2 : (m.kind == 2) = false) (k3 : (m.kind == 3) = false) (g0 : (m.queue != 0) = false) (g1 : (m.retry != 0) = true) :
    Calls Tryz.prog 7 #[.agg #[.int .i64 m.kind, .int .i64 m.queue, .int .i64 m.due, .int .i64 m.retry, .int .i64 m.ref, .int .i64 m.born, .string m.topic, .string m.tag, .string m.body, .slice A m.keys.length c]] w fun e w' => e = .returned (.bool (rightM m)) ∧ Below w.heap.size w w' := by
  have HR := Lib.hid (show rightM m = false by 
    rw [Bool.eq_false_iff]; intro hr
    simp only [rightM, nums_eq, n0, n1, n2, k1, k2, k3, Bool.and_true, Bool.true_and, Bool.false_eq_true, if_false, if_true, reduceIte] at hr
    split at hr
    · simp only [sameM, cancelM, Bool.and_eq_true, beq_iff_eq, decide_eq_true_eq] at hr
      obtain ⟨-, a1, a2, a3, -, -, a6, a7, -, a9⟩ := hr
      (rw [a3] at g1; cases g1)
    · split at hr
      · simp only [fillM, sameM, bareM, Bool.and_eq_true, beq_iff_eq, decide_eq_true_eq] at hr
        obtain ⟨-, -, -, a1, a2, a3, -, -, a6, a7, -, a9⟩ := hr
        (rw [a3] at g1; cases g1)
      · cases hr)
  have HB : Below w.heap.size w (w.alloc (.cells #[.int .i64 m.kind, .int .i64 m.queue, .int .i64 m.due, .int .i64 m.retry, .int .i64 m.ref, .int .i64 m.born, .string m.topic, .string m.tag, .string m.body, .slice A m.keys.length c] 24)) := balloc (Below.refl _ _)
  have HL := Lib.hid (hl.below HB)
  have HS := Lib.hid hs
  clear hl hs
  go_enter Tryz.func7, Tryz.ntmps7
  go_wp2_with (first
    | (go_at_call 17; refine (rKeyN_any _ _).mono ?_; rintro e w' ⟨rfl, rfl⟩)
    | (go_at_call 18; refine (rcarries_any m A c _ HL.out HS.out hz1 hz2).mono ?_; rintro e w' ⟨rfl, hb⟩; obtain ⟨hc, hf⟩ := bcell hb; have HB : Below w.heap.size w w' := bstep HB hb))
  go_ret
  exact ⟨ret_bool HR.out.symm, HB⟩


set_option maxHeartbeats 8000000 in
theorem rright_o2 (m : Msg) (A : Option Addr) (c : Nat) (w : World) (hl : Strs w A m.keys) (hs : ∀ s ∈ m.keys, s.size ≤ 9223372036854775807) (hz1 : m.topic.size ≤ 9223372036854775807) (hz2 : m.tag.size ≤ 9223372036854775807) (hz3 : m.body.size ≤ 9223372036854775806) (n0 : okN m.due = true) (n1 : okN m.ref = true) (n2 : okN m.born = true) (k1 : (m.kind == 1) = false) (k2 : (m.kind == 2) = false) (k3 : (m.kind == 3) = false) (g0 : (m.queue != 0) = false) (g1 : (m.retry != 0) = false) (g2 : (m.due != 0) = true) :
    Calls Tryz.prog 7 #[.agg #[.int .i64 m.kind, .int .i64 m.queue, .int .i64 m.due, .int .i64 m.retry, .int .i64 m.ref, .int .i64 m.born, .string m.topic, .string m.tag, .string m.body, .slice A m.keys.length c]] w fun e w' => e = .returned (.bool (rightM m)) ∧ Below w.heap.size w w' := by
  have HR := Lib.hid (show rightM m = false by 
    rw [Bool.eq_false_iff]; intro hr
    simp only [rightM, nums_eq, n0, n1, n2, k1, k2, k3, Bool.and_true, Bool.true_and, Bool.false_eq_true, if_false, if_true, reduceIte] at hr
    split at hr
    · simp only [sameM, cancelM, Bool.and_eq_true, beq_iff_eq, decide_eq_true_eq] at hr
      obtain ⟨-, a1, a2, a3, -, -, a6, a7, -, a9⟩ := hr
      (rw [a2] at g2; cases g2)
    · split at hr
      · simp only [fillM, sameM, bareM, Bool.and_eq_true, beq_iff_eq, decide_eq_true_eq] at hr
        obtain ⟨-, -, -, a1, a2, a3, -, -, a6, a7, -, a9⟩ := hr
        (rw [a2] at g2; cases g2)
      · cases hr)
  have HB : Below w.heap.size w (w.alloc (.cells #[.int .i64 m.kind, .int .i64 m.queue, .int .i64 m.due, .int .i64 m.retry, .int .i64 m.ref, .int .i64 m.born, .string m.topic, .string m.tag, .string m.body, .slice A m.keys.length c] 24)) := balloc (Below.refl _ _)
  have HL := Lib.hid (hl.below HB)
  have HS := Lib.hid hs
  clear hl hs
  go_enter Tryz.func7, Tryz.ntmps7
  go_wp2_with (first
    | (go_at_call 17; refine (rKeyN_any _ _).mono ?_; rintro e w' ⟨rfl, rfl⟩)
    | (go_at_call 18; refine (rcarries_any m A c _ HL.out HS.out hz1 hz2).mono ?_; rintro e w' ⟨rfl, hb⟩; obtain ⟨hc, hf⟩ := bcell hb; have HB : Below w.heap.size w w' := bstep HB hb))
  go_ret
  exact ⟨ret_bool HR.out.symm, HB⟩


set_option maxHeartbeats 8000000 in
theorem rright_o3 (m : Msg) (A : Option Addr) (c : Nat) (w : World) (hl : Strs w A m.keys) (hs : ∀ s ∈ m.keys, s.size ≤ 9223372036854775807) (hz1 : m.topic.size ≤ 9223372036854775807) (hz2 : m.tag.size ≤ 9223372036854775807) (hz3 : m.body.size ≤ 9223372036854775806) (n0 : okN m.due = true) (n1 : okN m.ref = true) (n2 : okN m.born = true) (k1 : (m.kind == 1) = false) (k2 : (m.kind == 2) = false) (k3 : (m.kind == 3) = false) (g0 : (m.queue != 0) = false) (g1 : (m.retry != 0) = false) (g2 : (m.due != 0) = false) (g3 : m.topic.toList.isEmpty = false) :
    Calls Tryz.prog 7 #[.agg #[.int .i64 m.kind, .int .i64 m.queue, .int .i64 m.due, .int .i64 m.retry, .int .i64 m.ref, .int .i64 m.born, .string m.topic, .string m.tag, .string m.body, .slice A m.keys.length c]] w fun e w' => e = .returned (.bool (rightM m)) ∧ Below w.heap.size w w' := by
  have HR := Lib.hid (show rightM m = false by 
    rw [Bool.eq_false_iff]; intro hr
    simp only [rightM, nums_eq, n0, n1, n2, k1, k2, k3, Bool.and_true, Bool.true_and, Bool.false_eq_true, if_false, if_true, reduceIte] at hr
    split at hr
    · simp only [sameM, cancelM, Bool.and_eq_true, beq_iff_eq, decide_eq_true_eq] at hr
      obtain ⟨-, a1, a2, a3, -, -, a6, a7, -, a9⟩ := hr
      (rw [empty_iff, a6] at g3; simp at g3)
    · split at hr
      · simp only [fillM, sameM, bareM, Bool.and_eq_true, beq_iff_eq, decide_eq_true_eq] at hr
        obtain ⟨-, -, -, a1, a2, a3, -, -, a6, a7, -, a9⟩ := hr
        (rw [empty_iff, a6] at g3; simp at g3)
      · cases hr)
  have HB : Below w.heap.size w (w.alloc (.cells #[.int .i64 m.kind, .int .i64 m.queue, .int .i64 m.due, .int .i64 m.retry, .int .i64 m.ref, .int .i64 m.born, .string m.topic, .string m.tag, .string m.body, .slice A m.keys.length c] 24)) := balloc (Below.refl _ _)
  have HL := Lib.hid (hl.below HB)
  have HS := Lib.hid hs
  clear hl hs
  go_enter Tryz.func7, Tryz.ntmps7
  go_wp2_with (first
    | (go_at_call 17; refine (rKeyN_any _ _).mono ?_; rintro e w' ⟨rfl, rfl⟩)
    | (go_at_call 18; refine (rcarries_any m A c _ HL.out HS.out hz1 hz2).mono ?_; rintro e w' ⟨rfl, hb⟩; obtain ⟨hc, hf⟩ := bcell hb; have HB : Below w.heap.size w w' := bstep HB hb))
  go_ret
  exact ⟨ret_bool HR.out.symm, HB⟩


set_option maxHeartbeats 8000000 in
theorem rright_o4 (m : Msg) (A : Option Addr) (c : Nat) (w : World) (hl : Strs w A m.keys) (hs : ∀ s ∈ m.keys, s.size ≤ 9223372036854775807) (hz1 : m.topic.size ≤ 9223372036854775807) (hz2 : m.tag.size ≤ 9223372036854775807) (hz3 : m.body.size ≤ 9223372036854775806) (n0 : okN m.due = true) (n1 : okN m.ref = true) (n2 : okN m.born = true) (k1 : (m.kind == 1) = false) (k2 : (m.kind == 2) = false) (k3 : (m.kind == 3) = false) (g0 : (m.queue != 0) = false) (g1 : (m.retry != 0) = false) (g2 : (m.due != 0) = false) (g3 : m.topic.toList.isEmpty = true) (g4 : m.tag.toList.isEmpty = false) :
    Calls Tryz.prog 7 #[.agg #[.int .i64 m.kind, .int .i64 m.queue, .int .i64 m.due, .int .i64 m.retry, .int .i64 m.ref, .int .i64 m.born, .string m.topic, .string m.tag, .string m.body, .slice A m.keys.length c]] w fun e w' => e = .returned (.bool (rightM m)) ∧ Below w.heap.size w w' := by
  have HR := Lib.hid (show rightM m = false by 
    rw [Bool.eq_false_iff]; intro hr
    simp only [rightM, nums_eq, n0, n1, n2, k1, k2, k3, Bool.and_true, Bool.true_and, Bool.false_eq_true, if_false, if_true, reduceIte] at hr
    split at hr
    · simp only [sameM, cancelM, Bool.and_eq_true, beq_iff_eq, decide_eq_true_eq] at hr
      obtain ⟨-, a1, a2, a3, -, -, a6, a7, -, a9⟩ := hr
      (rw [empty_iff, a7] at g4; simp at g4)
    · split at hr
      · simp only [fillM, sameM, bareM, Bool.and_eq_true, beq_iff_eq, decide_eq_true_eq] at hr
        obtain ⟨-, -, -, a1, a2, a3, -, -, a6, a7, -, a9⟩ := hr
        (rw [empty_iff, a7] at g4; simp at g4)
      · cases hr)
  have HB : Below w.heap.size w (w.alloc (.cells #[.int .i64 m.kind, .int .i64 m.queue, .int .i64 m.due, .int .i64 m.retry, .int .i64 m.ref, .int .i64 m.born, .string m.topic, .string m.tag, .string m.body, .slice A m.keys.length c] 24)) := balloc (Below.refl _ _)
  have HL := Lib.hid (hl.below HB)
  have HS := Lib.hid hs
  clear hl hs
  go_enter Tryz.func7, Tryz.ntmps7
  go_wp2_with (first
    | (go_at_call 17; refine (rKeyN_any _ _).mono ?_; rintro e w' ⟨rfl, rfl⟩)
    | (go_at_call 18; refine (rcarries_any m A c _ HL.out HS.out hz1 hz2).mono ?_; rintro e w' ⟨rfl, hb⟩; obtain ⟨hc, hf⟩ := bcell hb; have HB : Below w.heap.size w w' := bstep HB hb))
  go_ret
  exact ⟨ret_bool HR.out.symm, HB⟩


set_option maxHeartbeats 8000000 in
theorem rright_o5 (m : Msg) (A : Option Addr) (c : Nat) (w : World) (hl : Strs w A m.keys) (hs : ∀ s ∈ m.keys, s.size ≤ 9223372036854775807) (hz1 : m.topic.size ≤ 9223372036854775807) (hz2 : m.tag.size ≤ 9223372036854775807) (hz3 : m.body.size ≤ 9223372036854775806) (n0 : okN m.due = true) (n1 : okN m.ref = true) (n2 : okN m.born = true) (k1 : (m.kind == 1) = false) (k2 : (m.kind == 2) = false) (k3 : (m.kind == 3) = false) (g0 : (m.queue != 0) = false) (g1 : (m.retry != 0) = false) (g2 : (m.due != 0) = false) (g3 : m.topic.toList.isEmpty = true) (g4 : m.tag.toList.isEmpty = true) (g5 : ((m.keys.length : Int) != 0) = true) :
    Calls Tryz.prog 7 #[.agg #[.int .i64 m.kind, .int .i64 m.queue, .int .i64 m.due, .int .i64 m.retry, .int .i64 m.ref, .int .i64 m.born, .string m.topic, .string m.tag, .string m.body, .slice A m.keys.length c]] w fun e w' => e = .returned (.bool (rightM m)) ∧ Below w.heap.size w w' := by
  have HR := Lib.hid (show rightM m = false by 
    rw [Bool.eq_false_iff]; intro hr
    simp only [rightM, nums_eq, n0, n1, n2, k1, k2, k3, Bool.and_true, Bool.true_and, Bool.false_eq_true, if_false, if_true, reduceIte] at hr
    split at hr
    · simp only [sameM, cancelM, Bool.and_eq_true, beq_iff_eq, decide_eq_true_eq] at hr
      obtain ⟨-, a1, a2, a3, -, -, a6, a7, -, a9⟩ := hr
      (have a10 := of_decide_eq_true a9; rw [a10] at g5; simp at g5)
    · split at hr
      · simp only [fillM, sameM, bareM, Bool.and_eq_true, beq_iff_eq, decide_eq_true_eq] at hr
        obtain ⟨-, -, -, a1, a2, a3, -, -, a6, a7, -, a9⟩ := hr
        (have a10 := of_decide_eq_true a9; rw [a10] at g5; simp at g5)
      · cases hr)
  have HB : Below w.heap.size w (w.alloc (.cells #[.int .i64 m.kind, .int .i64 m.queue, .int .i64 m.due, .int .i64 m.retry, .int .i64 m.ref, .int .i64 m.born, .string m.topic, .string m.tag, .string m.body, .slice A m.keys.length c] 24)) := balloc (Below.refl _ _)
  have HL := Lib.hid (hl.below HB)
  have HS := Lib.hid hs
  clear hl hs
  go_enter Tryz.func7, Tryz.ntmps7
  go_wp2_with (first
    | (go_at_call 17; refine (rKeyN_any _ _).mono ?_; rintro e w' ⟨rfl, rfl⟩)
    | (go_at_call 18; refine (rcarries_any m A c _ HL.out HS.out hz1 hz2).mono ?_; rintro e w' ⟨rfl, hb⟩; obtain ⟨hc, hf⟩ := bcell hb; have HB : Below w.heap.size w w' := bstep HB hb))
  go_ret
  exact ⟨ret_bool HR.out.symm, HB⟩


theorem bare_eq (m : Msg) (g0 : (m.queue != 0) = false) (g1 : (m.retry != 0) = false) (g2 : (m.due != 0) = false) (g3 : m.topic.toList.isEmpty = true) (g4 : m.tag.toList.isEmpty = true) (g5 : ((m.keys.length : Int) != 0) = false) :
    sameM m (bareM m) = ((m.kind == 0) && ((m.ref == 0) && (m.born == 0))) ∧ sameM m (cancelM m) = m.body.toList.isEmpty := by
  have hk : m.keys = [] := by simp at g5; exact g5
  rw [empty_iff] at g3 g4 ⊢
  have q0 : (m.queue == 0) = true := by simpa using g0
  have q1 : (m.retry == 0) = true := by simpa using g1
  have q2 : (m.due == 0) = true := by simpa using g2
  simp only [sameM, bareM, cancelM, hk, q0, q1, q2, g3, g4, beq_self_eq_true, decide_true, Bool.true_and, Bool.and_true]
  exact ⟨trivial, trivial⟩
theorem noughts_eq (s : ByteArray) : (s.toList == (B (noughtsL s.size)).toList) = (L s).all (fun b => b == 0) := by
  rw [L_of, L_of, L_B, Bool.eq_iff_iff, beq_iff_eq, List.all_eq_true]
  constructor
  · intro h x hx
    rw [h] at hx
    unfold noughtsL at hx
    rw [List.mem_replicate] at hx
    simp [hx.2]
  · intro h
    unfold noughtsL
    rw [List.eq_replicate_iff]
    exact ⟨L_len s, fun b hb => by simpa using h b hb⟩
theorem nz_bad {s : ByteArray} {k : Nat} (h : k < s.size) (hx : ((s[k].toNat : Int) != 0) = true) : (L s).all (fun b => b == 0) = false := by
  rw [List.all_eq_false]
  refine ⟨s[k], by rw [← L_get s k h]; exact List.getElem_mem _, ?_⟩
  simp at hx ⊢
  intro e; rw [e] at hx; simp at hx
theorem nz_next {s : ByteArray} {k : Nat} (h : k < s.size) (hA : ((L s).take k).all (fun b => b == 0) = true) (hx : ((s[k].toNat : Int) != 0) = false) : ((L s).take (k + 1)).all (fun b => b == 0) = true := by
  refine take_all h hA ?_
  simp at hx ⊢
  exact UInt8.toNat_inj.mp (by simpa using hx)
theorem nz_end {s : ByteArray} {k : Nat} (h : ¬ k < s.size) (hA : ((L s).take k).all (fun b => b == 0) = true) : (L s).all (fun b => b == 0) = true := by
  rwa [List.take_of_length_le (by rw [L_len]; omega)] at hA


set_option maxHeartbeats 8000000 in
theorem rright_4 (m : Msg) (A : Option Addr) (c : Nat) (w : World) (hl : Strs w A m.keys) (hs : ∀ s ∈ m.keys, s.size ≤ 9223372036854775807) (hz1 : m.topic.size ≤ 9223372036854775807) (hz2 : m.tag.size ≤ 9223372036854775807) (hz3 : m.body.size ≤ 9223372036854775806) (n0 : okN m.due = true) (n1 : okN m.ref = true) (n2 : okN m.born = true) (k1 : (m.kind == 1) = false) (k2 : (m.kind == 2) = false) (k3 : (m.kind == 3) = false) (g0 : (m.queue != 0) = false) (g1 : (m.retry != 0) = false) (g2 : (m.due != 0) = false) (g3 : m.topic.toList.isEmpty = true) (g4 : m.tag.toList.isEmpty = true) (g5 : ((m.keys.length : Int) != 0) = false) (k4 : (m.kind == 4) = true) :
    Calls Tryz.prog 7 #[.agg #[.int .i64 m.kind, .int .i64 m.queue, .int .i64 m.due, .int .i64 m.retry, .int .i64 m.ref, .int .i64 m.born, .string m.topic, .string m.tag, .string m.body, .slice A m.keys.length c]] w fun e w' => e = .returned (.bool (rightM m)) ∧ Below w.heap.size w w' := by
  have HR := Lib.hid (show rightM m = m.body.toList.isEmpty by 
    rw [← (bare_eq m g0 g1 g2 g3 g4 g5).2]; simp only [rightM, nums_eq, n0, n1, n2, k1, k2, k3, k4, Bool.and_true, Bool.true_and, Bool.false_eq_true, if_true, if_false, reduceIte])
  have HB : Below w.heap.size w (w.alloc (.cells #[.int .i64 m.kind, .int .i64 m.queue, .int .i64 m.due, .int .i64 m.retry, .int .i64 m.ref, .int .i64 m.born, .string m.topic, .string m.tag, .string m.body, .slice A m.keys.length c] 24)) := balloc (Below.refl _ _)
  have HL := Lib.hid (hl.below HB)
  have HS := Lib.hid hs
  clear hl hs
  go_enter Tryz.func7, Tryz.ntmps7
  go_wp2_with (first
    | (go_at_call 17; refine (rKeyN_any _ _).mono ?_; rintro e w' ⟨rfl, rfl⟩)
    | (go_at_call 18; refine (rcarries_any m A c _ HL.out HS.out hz1 hz2).mono ?_; rintro e w' ⟨rfl, hb⟩; obtain ⟨hc, hf⟩ := bcell hb; have HB : Below w.heap.size w w' := bstep HB hb))
  go_ret
  exact ⟨ret_bool HR.out.symm, HB⟩


set_option maxHeartbeats 8000000 in
theorem rright_0 (m : Msg) (A : Option Addr) (c : Nat) (w : World) (hl : Strs w A m.keys) (hs : ∀ s ∈ m.keys, s.size ≤ 9223372036854775807) (hz1 : m.topic.size ≤ 9223372036854775807) (hz2 : m.tag.size ≤ 9223372036854775807) (hz3 : m.body.size ≤ 9223372036854775806) (n0 : okN m.due = true) (n1 : okN m.ref = true) (n2 : okN m.born = true) (k1 : (m.kind == 1) = false) (k2 : (m.kind == 2) = false) (k3 : (m.kind == 3) = false) (g0 : (m.queue != 0) = false) (g1 : (m.retry != 0) = false) (g2 : (m.due != 0) = false) (g3 : m.topic.toList.isEmpty = true) (g4 : m.tag.toList.isEmpty = true) (g5 : ((m.keys.length : Int) != 0) = false) (k4 : (m.kind == 4) = false) :
    Calls Tryz.prog 7 #[.agg #[.int .i64 m.kind, .int .i64 m.queue, .int .i64 m.due, .int .i64 m.retry, .int .i64 m.ref, .int .i64 m.born, .string m.topic, .string m.tag, .string m.body, .slice A m.keys.length c]] w fun e w' => e = .returned (.bool (rightM m)) ∧ Below w.heap.size w w' := by
  have HR := Lib.hid (show rightM m = ((m.kind == 0) && ((decide ((m.body.size : Int) ≤ 1024)) && ((L m.body).all (fun b => b == 0) && ((m.ref == 0) && (m.born == 0))))) by 
    have e := (bare_eq m g0 g1 g2 g3 g4 g5).1
    simp only [rightM, nums_eq, n0, n1, n2, k1, k2, k3, k4, Bool.and_true, Bool.true_and, Bool.false_eq_true, if_true, if_false, reduceIte, fillM, e, noughts_eq]
    rcases Bool.eq_false_or_eq_true (m.kind == 0) with h | h <;> simp [h])
  have HB : Below w.heap.size w (w.alloc (.cells #[.int .i64 m.kind, .int .i64 m.queue, .int .i64 m.due, .int .i64 m.retry, .int .i64 m.ref, .int .i64 m.born, .string m.topic, .string m.tag, .string m.body, .slice A m.keys.length c] 24)) := balloc (Below.refl _ _)
  have HL := Lib.hid (hl.below HB)
  have HS := Lib.hid hs
  clear hl hs
  go_enter Tryz.func7, Tryz.ntmps7
  go_wp2_with (first
    | (go_at_call 17; refine (rKeyN_any _ _).mono ?_; rintro e w' ⟨rfl, rfl⟩)
    | (go_at_call 18; refine (rcarries_any m A c _ HL.out HS.out hz1 hz2).mono ?_; rintro e w' ⟨rfl, hb⟩; obtain ⟨hc, hf⟩ := bcell hb; have HB : Below w.heap.size w w' := bstep HB hb))
  have HZ := Lib.hid hz3
  go_loop [3] (fun i => ∃ k : Nat, k ≤ m.body.size ∧ i = .int .i64 k ∧ Hid (((L m.body).take k).all (fun b => b == 0) = true)) (fun i => m.body.size - (intOf i).toNat)
  case atStart => exact ⟨0, Nat.zero_le _, rfl, rfl⟩
  case round =>
    obtain ⟨k, hk, rfl, HA⟩ := hrel
    by_cases hlt : k < m.body.size
    · rcases Bool.eq_false_or_eq_true ((m.body[k].toNat : Int) != 0) with hX | hX
      · have HK := Lib.hid (nz_bad hlt hX)
        go_wp2
        go_ret
        exact ⟨ret_bool (by rw [HR.out, HK.out]; simp), HB⟩
      · have HN := Lib.hid (nz_next hlt HA.out hX)
        go_wp2
        go_round
        case rel => exact ⟨k + 1, by omega, by go_num, HN⟩
        case measure => simp [intOf]; omega
    · have HK := Lib.hid (nz_end hlt HA.out)
      rcases Bool.eq_false_or_eq_true (m.kind == 0) with z0 | z0
      rotate_left
      · go_wp2
        go_ret
        exact ⟨ret_bool (by rw [HR.out, z0]; rfl), HB⟩
      rcases Bool.eq_false_or_eq_true (m.ref == 0) with z1 | z1
      rotate_left
      · go_wp2
        go_ret
        exact ⟨ret_bool (by rw [HR.out, z0, z1, HK.out]; simp), HB⟩
      rcases Bool.eq_false_or_eq_true (m.born == 0) with z2 | z2
      rotate_left
      · go_wp2
        go_ret
        exact ⟨ret_bool (by rw [HR.out, z0, z1, z2, HK.out]; simp), HB⟩
      go_wp2
      go_ret
      exact ⟨ret_bool (by rw [HR.out, z0, z1, z2, HK.out]; simp), HB⟩


theorem rright_any (m : Msg) (A : Option Addr) (c : Nat) (w : World) (hl : Strs w A m.keys) (hs : ∀ s ∈ m.keys, s.size ≤ 9223372036854775807) (hz1 : m.topic.size ≤ 9223372036854775807) (hz2 : m.tag.size ≤ 9223372036854775807) (hz3 : m.body.size ≤ 9223372036854775806) :
    Calls Tryz.prog 7 #[.agg #[.int .i64 m.kind, .int .i64 m.queue, .int .i64 m.due, .int .i64 m.retry, .int .i64 m.ref, .int .i64 m.born, .string m.topic, .string m.tag, .string m.body, .slice A m.keys.length c]] w fun e w' => e = .returned (.bool (rightM m)) ∧ Below w.heap.size w w' := by
  rcases Bool.eq_false_or_eq_true (okN m.due) with n0 | n0
  rotate_left
  · exact rright_n0 m A c w hl hs hz1 hz2 hz3 n0
  rcases Bool.eq_false_or_eq_true (okN m.ref) with n1 | n1
  rotate_left
  · exact rright_n1 m A c w hl hs hz1 hz2 hz3 n0 n1
  rcases Bool.eq_false_or_eq_true (okN m.born) with n2 | n2
  rotate_left
  · exact rright_n2 m A c w hl hs hz1 hz2 hz3 n0 n1 n2
  rcases kind_cases m.kind with ⟨k1, k2, k3, k4, k0⟩ | ⟨k1, k2, k3, k4, k0⟩ | ⟨k1, k2, k3, k4, k0⟩ | ⟨k1, k2, k3, k4, k0⟩ | ⟨k1, k2, k3, k4, k0⟩ | ⟨k1, k2, k3, k4, k0⟩
  · rcases Bool.eq_false_or_eq_true (carriesM m) with f1 | f1
    · rcases Bool.eq_false_or_eq_true (m.due == 0) with f2 | f2
      · exact rright_1c m A c w hl hs hz1 hz2 hz3 n0 n1 n2 k1 k2 k3 k4 k0 f1 f2
      · exact rright_1b m A c w hl hs hz1 hz2 hz3 n0 n1 n2 k1 k2 k3 k4 k0 f1 f2
    · exact rright_1a m A c w hl hs hz1 hz2 hz3 n0 n1 n2 k1 k2 k3 k4 k0 f1
  · exact rright_2 m A c w hl hs hz1 hz2 hz3 n0 n1 n2 k1 k2 k3 k4 k0
  · exact rright_3 m A c w hl hs hz1 hz2 hz3 n0 n1 n2 k1 k2 k3 k4 k0
  all_goals
    clear k0
    rcases Bool.eq_false_or_eq_true ((m.queue != 0)) with g0 | g0
    · exact rright_o0 m A c w hl hs hz1 hz2 hz3 n0 n1 n2 k1 k2 k3 g0
    rcases Bool.eq_false_or_eq_true ((m.retry != 0)) with g1 | g1
    · exact rright_o1 m A c w hl hs hz1 hz2 hz3 n0 n1 n2 k1 k2 k3 g0 g1
    rcases Bool.eq_false_or_eq_true ((m.due != 0)) with g2 | g2
    · exact rright_o2 m A c w hl hs hz1 hz2 hz3 n0 n1 n2 k1 k2 k3 g0 g1 g2
    rcases Bool.eq_false_or_eq_true (m.topic.toList.isEmpty) with g3 | g3
    rotate_left
    · exact rright_o3 m A c w hl hs hz1 hz2 hz3 n0 n1 n2 k1 k2 k3 g0 g1 g2 g3
    rcases Bool.eq_false_or_eq_true (m.tag.toList.isEmpty) with g4 | g4
    rotate_left
    · exact rright_o4 m A c w hl hs hz1 hz2 hz3 n0 n1 n2 k1 k2 k3 g0 g1 g2 g3 g4
    rcases Bool.eq_false_or_eq_true (((m.keys.length : Int) != 0)) with g5 | g5
    · exact rright_o5 m A c w hl hs hz1 hz2 hz3 n0 n1 n2 k1 k2 k3 g0 g1 g2 g3 g4 g5
    first
      | exact rright_4 m A c w hl hs hz1 hz2 hz3 n0 n1 n2 k1 k2 k3 g0 g1 g2 g3 g4 g5 k4
      | exact rright_0 m A c w hl hs hz1 hz2 hz3 n0 n1 n2 k1 k2 k3 g0 g1 g2 g3 g4 g5 k4

end Go.Proofs.YtnlpohcnlmdocaaGreat
