/- Whether a record may be: the program's answer. -/
import Derived.Test.YtnlpohcnlmdocaaGreatCarries
import Derived.Deep.RegionHeld3
namespace Go.Proofs.YtnlpohcnlmdocaaGreat
open Go.RowKit Go.Shelf
set_option linter.unusedSimpArgs false
set_option linter.unusedVariables false

/-- What a cancel, and a filler, must be. -/
def cancelM (m : Msg) : Msg := ⟨m.kind, 0, 0, 0, m.ref, m.born, ⟨#[]⟩, ⟨#[]⟩, ⟨#[]⟩, []⟩
def bareM (m : Msg) : Msg := ⟨0, 0, 0, 0, 0, 0, ⟨#[]⟩, ⟨#[]⟩, m.body, []⟩
def fillM (m : Msg) : Bool := decide ((m.body.size : Int) ≤ 1024) && ((m.body.toList == (B (noughtsL m.body.size)).toList) && sameM m (bareM m))
def numsM (m : Msg) : Bool := allI okN [m.due, m.ref, m.born]
def rightM (m : Msg) : Bool :=
  if numsM m then (if (m.kind == 1) then (carriesM m && ((m.due == 0) && (m.ref == 0))) else if (m.kind == 2) then carriesM m else if (m.kind == 3) then carriesM m
    else if (m.kind == 4) then sameM m (cancelM m) else if (m.kind == 0) then fillM m else false) else false

theorem kind_cases (k : Int) : ((k == 1) = true ∧ (k == 2) = false ∧ (k == 3) = false ∧ (k == 4) = false ∧ (k == 0) = false) ∨ ((k == 1) = false ∧ (k == 2) = true ∧ (k == 3) = false ∧ (k == 4) = false ∧ (k == 0) = false) ∨
    ((k == 1) = false ∧ (k == 2) = false ∧ (k == 3) = true ∧ (k == 4) = false ∧ (k == 0) = false) ∨ ((k == 1) = false ∧ (k == 2) = false ∧ (k == 3) = false ∧ (k == 4) = true ∧ (k == 0) = false) ∨
    ((k == 1) = false ∧ (k == 2) = false ∧ (k == 3) = false ∧ (k == 4) = false ∧ (k == 0) = true) ∨ ((k == 1) = false ∧ (k == 2) = false ∧ (k == 3) = false ∧ (k == 4) = false ∧ (k == 0) = false) := by
  simp only [beq_eq_false_iff_ne, beq_iff_eq, ne_eq]; omega

theorem ints_new (w : World) (l : List Int) (t : TypeId) (hl : l ≠ []) : Ints (w.alloc (.cells (l.map (Value.int .i64)).toArray t)) (some ⟨w.heap.size, 0, none⟩) l := fun _ => by
  refine ⟨_, _, rfl, fun j hj => ?_⟩
  have h := World.alloc_heap_new w (.cells (l.map (Value.int .i64)).toArray t)
  unfold World.cell?
  rw [h]
  simp [hj]

theorem sameC_any (m : Msg) (A : Option Addr) (c : Nat) (w : World) (hl : Strs w A m.keys) (hn : m.keys.length ≤ 9223372036854775806) :
    Calls Tryz.prog 13 #[.agg #[.int .i64 m.kind, .int .i64 m.queue, .int .i64 m.due, .int .i64 m.retry, .int .i64 m.ref, .int .i64 m.born, .string m.topic, .string m.tag, .string m.body, .slice A m.keys.length c], .agg #[.int .i64 m.kind, .int .i64 0, .int .i64 0, .int .i64 0, .int .i64 m.ref, .int .i64 m.born, .string ⟨#[]⟩, .string ⟨#[]⟩, .string ⟨#[]⟩, .slice none 0 0]] w fun e w' => e = .returned (.bool (sameM m (cancelM m))) ∧ Below w.heap.size w w' :=
  same_any m (cancelM m) A none c 0 w hl (fun h => absurd rfl h) hn (Nat.zero_le _)
theorem sameB_any (m : Msg) (A : Option Addr) (c : Nat) (w : World) (hl : Strs w A m.keys) (hn : m.keys.length ≤ 9223372036854775806) :
    Calls Tryz.prog 13 #[.agg #[.int .i64 m.kind, .int .i64 m.queue, .int .i64 m.due, .int .i64 m.retry, .int .i64 m.ref, .int .i64 m.born, .string m.topic, .string m.tag, .string m.body, .slice A m.keys.length c], .agg #[.int .i64 0, .int .i64 0, .int .i64 0, .int .i64 0, .int .i64 0, .int .i64 0, .string ⟨#[]⟩, .string ⟨#[]⟩, .string m.body, .slice none 0 0]] w fun e w' => e = .returned (.bool (sameM m (bareM m))) ∧ Below w.heap.size w w' :=
  same_any m (bareM m) A none c 0 w hl (fun h => absurd rfl h) hn (Nat.zero_le _)


set_option maxHeartbeats 8000000 in
theorem right_n (m : Msg) (A : Option Addr) (c : Nat) (w : World) (hl : Strs w A m.keys) (hn : m.keys.length * 16 ≤ 140737488355328) (hs : ∀ s ∈ m.keys, s.size ≤ 9223372036854775807)
    (f0 : numsM m = false) :
    Calls Tryz.prog 8 #[.agg #[.int .i64 m.kind, .int .i64 m.queue, .int .i64 m.due, .int .i64 m.retry, .int .i64 m.ref, .int .i64 m.born, .string m.topic, .string m.tag, .string m.body, .slice A m.keys.length c]] w fun e w' => e = .returned (.bool (rightM m)) ∧ Below w.heap.size w w' := by
  have HR := Lib.hid (show rightM m = false by simp only [rightM, fillM, f0, if_true, if_false, Bool.false_eq_true, reduceIte, Bool.and_true, Bool.true_and, Bool.false_and, Bool.and_false])
  have HL := Lib.hid hl
  have HS := Lib.hid hs
  clear hl hs
  have HB := Below.refl w.heap.size w
  have hN := nums_any (some ⟨w.heap.size + 1, 0, none⟩) 3 [m.due, m.ref, m.born] ((w.alloc (.cells #[.int .i64 m.kind, .int .i64 m.queue, .int .i64 m.due, .int .i64 m.retry, .int .i64 m.ref, .int .i64 m.born, .string m.topic, .string m.tag, .string m.body, .slice A m.keys.length c] 24)).alloc (.cells #[.int .i64 m.due, .int .i64 m.ref, .int .i64 m.born] 3)) (by
    have := ints_new (w.alloc (.cells #[.int .i64 m.kind, .int .i64 m.queue, .int .i64 m.due, .int .i64 m.retry, .int .i64 m.ref, .int .i64 m.born, .string m.topic, .string m.tag, .string m.body, .slice A m.keys.length c] 24)) [m.due, m.ref, m.born] 3 (by simp)
    simpa using this) (by simp)
  have e0 : allI okN [m.due, m.ref, m.born] = numsM m := rfl
  rw [e0] at hN
  clear e0
  go_enter Tryz.func8, Tryz.ntmps8
  go_wp2_with (first
    | (go_at_call 19; refine hN.mono ?_; rintro e w' ⟨rfl, rfl⟩)
    | (go_at_call 20; refine (carries_any m _ _ _ (HL.out.below (by repeat (first | exact HB | apply balloc))) hn HS.out).mono ?_; rintro e w' ⟨rfl, hb⟩; obtain ⟨hc, hf⟩ := bcell hb; have HB := bstep (by repeat (first | exact HB | apply balloc)) hb)
    | (go_at_call 13; refine (sameC_any m _ _ _ (HL.out.below (by repeat (first | exact HB | apply balloc))) (by omega)).mono ?_; rintro e w' ⟨rfl, hb⟩; obtain ⟨hc, hf⟩ := bcell hb; have HB := bstep (by repeat (first | exact HB | apply balloc)) hb))

  go_ret
  exact ⟨ret_bool HR.out.symm, by repeat (first | exact HB | apply balloc)⟩


set_option maxHeartbeats 8000000 in
theorem right_1a (m : Msg) (A : Option Addr) (c : Nat) (w : World) (hl : Strs w A m.keys) (hn : m.keys.length * 16 ≤ 140737488355328) (hs : ∀ s ∈ m.keys, s.size ≤ 9223372036854775807)
    (f0 : numsM m = true) (f1 : (m.kind == 1) = true) (f2 : (m.kind == 2) = false) (f3 : (m.kind == 3) = false) (f4 : (m.kind == 4) = false) (f5 : (m.kind == 0) = false) (f6 : carriesM m = false) :
    Calls Tryz.prog 8 #[.agg #[.int .i64 m.kind, .int .i64 m.queue, .int .i64 m.due, .int .i64 m.retry, .int .i64 m.ref, .int .i64 m.born, .string m.topic, .string m.tag, .string m.body, .slice A m.keys.length c]] w fun e w' => e = .returned (.bool (rightM m)) ∧ Below w.heap.size w w' := by
  have HR := Lib.hid (show rightM m = false by simp only [rightM, fillM, f0, f1, f2, f3, f4, f5, f6, if_true, if_false, Bool.false_eq_true, reduceIte, Bool.and_true, Bool.true_and, Bool.false_and, Bool.and_false])
  have HL := Lib.hid hl
  have HS := Lib.hid hs
  clear hl hs
  have HB := Below.refl w.heap.size w
  have hN := nums_any (some ⟨w.heap.size + 1, 0, none⟩) 3 [m.due, m.ref, m.born] ((w.alloc (.cells #[.int .i64 m.kind, .int .i64 m.queue, .int .i64 m.due, .int .i64 m.retry, .int .i64 m.ref, .int .i64 m.born, .string m.topic, .string m.tag, .string m.body, .slice A m.keys.length c] 24)).alloc (.cells #[.int .i64 m.due, .int .i64 m.ref, .int .i64 m.born] 3)) (by
    have := ints_new (w.alloc (.cells #[.int .i64 m.kind, .int .i64 m.queue, .int .i64 m.due, .int .i64 m.retry, .int .i64 m.ref, .int .i64 m.born, .string m.topic, .string m.tag, .string m.body, .slice A m.keys.length c] 24)) [m.due, m.ref, m.born] 3 (by simp)
    simpa using this) (by simp)
  have e0 : allI okN [m.due, m.ref, m.born] = numsM m := rfl
  rw [e0] at hN
  clear e0
  go_enter Tryz.func8, Tryz.ntmps8
  go_wp2_with (first
    | (go_at_call 19; refine hN.mono ?_; rintro e w' ⟨rfl, rfl⟩)
    | (go_at_call 20; refine (carries_any m _ _ _ (HL.out.below (by repeat (first | exact HB | apply balloc))) hn HS.out).mono ?_; rintro e w' ⟨rfl, hb⟩; obtain ⟨hc, hf⟩ := bcell hb; have HB := bstep (by repeat (first | exact HB | apply balloc)) hb)
    | (go_at_call 13; refine (sameC_any m _ _ _ (HL.out.below (by repeat (first | exact HB | apply balloc))) (by omega)).mono ?_; rintro e w' ⟨rfl, hb⟩; obtain ⟨hc, hf⟩ := bcell hb; have HB := bstep (by repeat (first | exact HB | apply balloc)) hb))

  go_ret
  exact ⟨ret_bool HR.out.symm, by repeat (first | exact HB | apply balloc)⟩


set_option maxHeartbeats 8000000 in
theorem right_1b (m : Msg) (A : Option Addr) (c : Nat) (w : World) (hl : Strs w A m.keys) (hn : m.keys.length * 16 ≤ 140737488355328) (hs : ∀ s ∈ m.keys, s.size ≤ 9223372036854775807)
    (f0 : numsM m = true) (f1 : (m.kind == 1) = true) (f2 : (m.kind == 2) = false) (f3 : (m.kind == 3) = false) (f4 : (m.kind == 4) = false) (f5 : (m.kind == 0) = false) (f6 : carriesM m = true) (f7 : (m.due == 0) = false) :
    Calls Tryz.prog 8 #[.agg #[.int .i64 m.kind, .int .i64 m.queue, .int .i64 m.due, .int .i64 m.retry, .int .i64 m.ref, .int .i64 m.born, .string m.topic, .string m.tag, .string m.body, .slice A m.keys.length c]] w fun e w' => e = .returned (.bool (rightM m)) ∧ Below w.heap.size w w' := by
  have HR := Lib.hid (show rightM m = false by simp only [rightM, fillM, f0, f1, f2, f3, f4, f5, f6, f7, if_true, if_false, Bool.false_eq_true, reduceIte, Bool.and_true, Bool.true_and, Bool.false_and, Bool.and_false])
  have HL := Lib.hid hl
  have HS := Lib.hid hs
  clear hl hs
  have HB := Below.refl w.heap.size w
  have hN := nums_any (some ⟨w.heap.size + 1, 0, none⟩) 3 [m.due, m.ref, m.born] ((w.alloc (.cells #[.int .i64 m.kind, .int .i64 m.queue, .int .i64 m.due, .int .i64 m.retry, .int .i64 m.ref, .int .i64 m.born, .string m.topic, .string m.tag, .string m.body, .slice A m.keys.length c] 24)).alloc (.cells #[.int .i64 m.due, .int .i64 m.ref, .int .i64 m.born] 3)) (by
    have := ints_new (w.alloc (.cells #[.int .i64 m.kind, .int .i64 m.queue, .int .i64 m.due, .int .i64 m.retry, .int .i64 m.ref, .int .i64 m.born, .string m.topic, .string m.tag, .string m.body, .slice A m.keys.length c] 24)) [m.due, m.ref, m.born] 3 (by simp)
    simpa using this) (by simp)
  have e0 : allI okN [m.due, m.ref, m.born] = numsM m := rfl
  rw [e0] at hN
  clear e0
  go_enter Tryz.func8, Tryz.ntmps8
  go_wp2_with (first
    | (go_at_call 19; refine hN.mono ?_; rintro e w' ⟨rfl, rfl⟩)
    | (go_at_call 20; refine (carries_any m _ _ _ (HL.out.below (by repeat (first | exact HB | apply balloc))) hn HS.out).mono ?_; rintro e w' ⟨rfl, hb⟩; obtain ⟨hc, hf⟩ := bcell hb; have HB := bstep (by repeat (first | exact HB | apply balloc)) hb)
    | (go_at_call 13; refine (sameC_any m _ _ _ (HL.out.below (by repeat (first | exact HB | apply balloc))) (by omega)).mono ?_; rintro e w' ⟨rfl, hb⟩; obtain ⟨hc, hf⟩ := bcell hb; have HB := bstep (by repeat (first | exact HB | apply balloc)) hb))

  go_ret
  exact ⟨ret_bool HR.out.symm, by repeat (first | exact HB | apply balloc)⟩


set_option maxHeartbeats 8000000 in
theorem right_1c (m : Msg) (A : Option Addr) (c : Nat) (w : World) (hl : Strs w A m.keys) (hn : m.keys.length * 16 ≤ 140737488355328) (hs : ∀ s ∈ m.keys, s.size ≤ 9223372036854775807)
    (f0 : numsM m = true) (f1 : (m.kind == 1) = true) (f2 : (m.kind == 2) = false) (f3 : (m.kind == 3) = false) (f4 : (m.kind == 4) = false) (f5 : (m.kind == 0) = false) (f6 : carriesM m = true) (f7 : (m.due == 0) = true) :
    Calls Tryz.prog 8 #[.agg #[.int .i64 m.kind, .int .i64 m.queue, .int .i64 m.due, .int .i64 m.retry, .int .i64 m.ref, .int .i64 m.born, .string m.topic, .string m.tag, .string m.body, .slice A m.keys.length c]] w fun e w' => e = .returned (.bool (rightM m)) ∧ Below w.heap.size w w' := by
  have HR := Lib.hid (show rightM m = (m.ref == 0) by simp only [rightM, fillM, f0, f1, f2, f3, f4, f5, f6, f7, if_true, if_false, Bool.false_eq_true, reduceIte, Bool.and_true, Bool.true_and, Bool.false_and, Bool.and_false])
  have HL := Lib.hid hl
  have HS := Lib.hid hs
  clear hl hs
  have HB := Below.refl w.heap.size w
  have hN := nums_any (some ⟨w.heap.size + 1, 0, none⟩) 3 [m.due, m.ref, m.born] ((w.alloc (.cells #[.int .i64 m.kind, .int .i64 m.queue, .int .i64 m.due, .int .i64 m.retry, .int .i64 m.ref, .int .i64 m.born, .string m.topic, .string m.tag, .string m.body, .slice A m.keys.length c] 24)).alloc (.cells #[.int .i64 m.due, .int .i64 m.ref, .int .i64 m.born] 3)) (by
    have := ints_new (w.alloc (.cells #[.int .i64 m.kind, .int .i64 m.queue, .int .i64 m.due, .int .i64 m.retry, .int .i64 m.ref, .int .i64 m.born, .string m.topic, .string m.tag, .string m.body, .slice A m.keys.length c] 24)) [m.due, m.ref, m.born] 3 (by simp)
    simpa using this) (by simp)
  have e0 : allI okN [m.due, m.ref, m.born] = numsM m := rfl
  rw [e0] at hN
  clear e0
  go_enter Tryz.func8, Tryz.ntmps8
  go_wp2_with (first
    | (go_at_call 19; refine hN.mono ?_; rintro e w' ⟨rfl, rfl⟩)
    | (go_at_call 20; refine (carries_any m _ _ _ (HL.out.below (by repeat (first | exact HB | apply balloc))) hn HS.out).mono ?_; rintro e w' ⟨rfl, hb⟩; obtain ⟨hc, hf⟩ := bcell hb; have HB := bstep (by repeat (first | exact HB | apply balloc)) hb)
    | (go_at_call 13; refine (sameC_any m _ _ _ (HL.out.below (by repeat (first | exact HB | apply balloc))) (by omega)).mono ?_; rintro e w' ⟨rfl, hb⟩; obtain ⟨hc, hf⟩ := bcell hb; have HB := bstep (by repeat (first | exact HB | apply balloc)) hb))

  go_ret
  exact ⟨ret_bool HR.out.symm, by repeat (first | exact HB | apply balloc)⟩


set_option maxHeartbeats 8000000 in
theorem right_2 (m : Msg) (A : Option Addr) (c : Nat) (w : World) (hl : Strs w A m.keys) (hn : m.keys.length * 16 ≤ 140737488355328) (hs : ∀ s ∈ m.keys, s.size ≤ 9223372036854775807)
    (f0 : numsM m = true) (f1 : (m.kind == 1) = false) (f2 : (m.kind == 2) = true) (f3 : (m.kind == 3) = false) (f4 : (m.kind == 4) = false) (f5 : (m.kind == 0) = false) :
    Calls Tryz.prog 8 #[.agg #[.int .i64 m.kind, .int .i64 m.queue, .int .i64 m.due, .int .i64 m.retry, .int .i64 m.ref, .int .i64 m.born, .string m.topic, .string m.tag, .string m.body, .slice A m.keys.length c]] w fun e w' => e = .returned (.bool (rightM m)) ∧ Below w.heap.size w w' := by
  have HR := Lib.hid (show rightM m = carriesM m by simp only [rightM, fillM, f0, f1, f2, f3, f4, f5, if_true, if_false, Bool.false_eq_true, reduceIte, Bool.and_true, Bool.true_and, Bool.false_and, Bool.and_false])
  have HL := Lib.hid hl
  have HS := Lib.hid hs
  clear hl hs
  have HB := Below.refl w.heap.size w
  have hN := nums_any (some ⟨w.heap.size + 1, 0, none⟩) 3 [m.due, m.ref, m.born] ((w.alloc (.cells #[.int .i64 m.kind, .int .i64 m.queue, .int .i64 m.due, .int .i64 m.retry, .int .i64 m.ref, .int .i64 m.born, .string m.topic, .string m.tag, .string m.body, .slice A m.keys.length c] 24)).alloc (.cells #[.int .i64 m.due, .int .i64 m.ref, .int .i64 m.born] 3)) (by
    have := ints_new (w.alloc (.cells #[.int .i64 m.kind, .int .i64 m.queue, .int .i64 m.due, .int .i64 m.retry, .int .i64 m.ref, .int .i64 m.born, .string m.topic, .string m.tag, .string m.body, .slice A m.keys.length c] 24)) [m.due, m.ref, m.born] 3 (by simp)
    simpa using this) (by simp)
  have e0 : allI okN [m.due, m.ref, m.born] = numsM m := rfl
  rw [e0] at hN
  clear e0
  go_enter Tryz.func8, Tryz.ntmps8
  go_wp2_with (first
    | (go_at_call 19; refine hN.mono ?_; rintro e w' ⟨rfl, rfl⟩)
    | (go_at_call 20; refine (carries_any m _ _ _ (HL.out.below (by repeat (first | exact HB | apply balloc))) hn HS.out).mono ?_; rintro e w' ⟨rfl, hb⟩; obtain ⟨hc, hf⟩ := bcell hb; have HB := bstep (by repeat (first | exact HB | apply balloc)) hb)
    | (go_at_call 13; refine (sameC_any m _ _ _ (HL.out.below (by repeat (first | exact HB | apply balloc))) (by omega)).mono ?_; rintro e w' ⟨rfl, hb⟩; obtain ⟨hc, hf⟩ := bcell hb; have HB := bstep (by repeat (first | exact HB | apply balloc)) hb))

  go_ret
  exact ⟨ret_bool HR.out.symm, by repeat (first | exact HB | apply balloc)⟩


set_option maxHeartbeats 8000000 in
theorem right_3 (m : Msg) (A : Option Addr) (c : Nat) (w : World) (hl : Strs w A m.keys) (hn : m.keys.length * 16 ≤ 140737488355328) (hs : ∀ s ∈ m.keys, s.size ≤ 9223372036854775807)
    (f0 : numsM m = true) (f1 : (m.kind == 1) = false) (f2 : (m.kind == 2) = false) (f3 : (m.kind == 3) = true) (f4 : (m.kind == 4) = false) (f5 : (m.kind == 0) = false) :
    Calls Tryz.prog 8 #[.agg #[.int .i64 m.kind, .int .i64 m.queue, .int .i64 m.due, .int .i64 m.retry, .int .i64 m.ref, .int .i64 m.born, .string m.topic, .string m.tag, .string m.body, .slice A m.keys.length c]] w fun e w' => e = .returned (.bool (rightM m)) ∧ Below w.heap.size w w' := by
  have HR := Lib.hid (show rightM m = carriesM m by simp only [rightM, fillM, f0, f1, f2, f3, f4, f5, if_true, if_false, Bool.false_eq_true, reduceIte, Bool.and_true, Bool.true_and, Bool.false_and, Bool.and_false])
  have HL := Lib.hid hl
  have HS := Lib.hid hs
  clear hl hs
  have HB := Below.refl w.heap.size w
  have hN := nums_any (some ⟨w.heap.size + 1, 0, none⟩) 3 [m.due, m.ref, m.born] ((w.alloc (.cells #[.int .i64 m.kind, .int .i64 m.queue, .int .i64 m.due, .int .i64 m.retry, .int .i64 m.ref, .int .i64 m.born, .string m.topic, .string m.tag, .string m.body, .slice A m.keys.length c] 24)).alloc (.cells #[.int .i64 m.due, .int .i64 m.ref, .int .i64 m.born] 3)) (by
    have := ints_new (w.alloc (.cells #[.int .i64 m.kind, .int .i64 m.queue, .int .i64 m.due, .int .i64 m.retry, .int .i64 m.ref, .int .i64 m.born, .string m.topic, .string m.tag, .string m.body, .slice A m.keys.length c] 24)) [m.due, m.ref, m.born] 3 (by simp)
    simpa using this) (by simp)
  have e0 : allI okN [m.due, m.ref, m.born] = numsM m := rfl
  rw [e0] at hN
  clear e0
  go_enter Tryz.func8, Tryz.ntmps8
  go_wp2_with (first
    | (go_at_call 19; refine hN.mono ?_; rintro e w' ⟨rfl, rfl⟩)
    | (go_at_call 20; refine (carries_any m _ _ _ (HL.out.below (by repeat (first | exact HB | apply balloc))) hn HS.out).mono ?_; rintro e w' ⟨rfl, hb⟩; obtain ⟨hc, hf⟩ := bcell hb; have HB := bstep (by repeat (first | exact HB | apply balloc)) hb)
    | (go_at_call 13; refine (sameC_any m _ _ _ (HL.out.below (by repeat (first | exact HB | apply balloc))) (by omega)).mono ?_; rintro e w' ⟨rfl, hb⟩; obtain ⟨hc, hf⟩ := bcell hb; have HB := bstep (by repeat (first | exact HB | apply balloc)) hb))

  go_ret
  exact ⟨ret_bool HR.out.symm, by repeat (first | exact HB | apply balloc)⟩


set_option maxHeartbeats 8000000 in
theorem right_4 (m : Msg) (A : Option Addr) (c : Nat) (w : World) (hl : Strs w A m.keys) (hn : m.keys.length * 16 ≤ 140737488355328) (hs : ∀ s ∈ m.keys, s.size ≤ 9223372036854775807)
    (f0 : numsM m = true) (f1 : (m.kind == 1) = false) (f2 : (m.kind == 2) = false) (f3 : (m.kind == 3) = false) (f4 : (m.kind == 4) = true) (f5 : (m.kind == 0) = false) :
    Calls Tryz.prog 8 #[.agg #[.int .i64 m.kind, .int .i64 m.queue, .int .i64 m.due, .int .i64 m.retry, .int .i64 m.ref, .int .i64 m.born, .string m.topic, .string m.tag, .string m.body, .slice A m.keys.length c]] w fun e w' => e = .returned (.bool (rightM m)) ∧ Below w.heap.size w w' := by
  have HR := Lib.hid (show rightM m = sameM m (cancelM m) by simp only [rightM, fillM, f0, f1, f2, f3, f4, f5, if_true, if_false, Bool.false_eq_true, reduceIte, Bool.and_true, Bool.true_and, Bool.false_and, Bool.and_false])
  have HL := Lib.hid hl
  have HS := Lib.hid hs
  clear hl hs
  have HB := Below.refl w.heap.size w
  have hN := nums_any (some ⟨w.heap.size + 1, 0, none⟩) 3 [m.due, m.ref, m.born] ((w.alloc (.cells #[.int .i64 m.kind, .int .i64 m.queue, .int .i64 m.due, .int .i64 m.retry, .int .i64 m.ref, .int .i64 m.born, .string m.topic, .string m.tag, .string m.body, .slice A m.keys.length c] 24)).alloc (.cells #[.int .i64 m.due, .int .i64 m.ref, .int .i64 m.born] 3)) (by
    have := ints_new (w.alloc (.cells #[.int .i64 m.kind, .int .i64 m.queue, .int .i64 m.due, .int .i64 m.retry, .int .i64 m.ref, .int .i64 m.born, .string m.topic, .string m.tag, .string m.body, .slice A m.keys.length c] 24)) [m.due, m.ref, m.born] 3 (by simp)
    simpa using this) (by simp)
  have e0 : allI okN [m.due, m.ref, m.born] = numsM m := rfl
  rw [e0] at hN
  clear e0
  go_enter Tryz.func8, Tryz.ntmps8
  go_wp2_with (first
    | (go_at_call 19; refine hN.mono ?_; rintro e w' ⟨rfl, rfl⟩)
    | (go_at_call 20; refine (carries_any m _ _ _ (HL.out.below (by repeat (first | exact HB | apply balloc))) hn HS.out).mono ?_; rintro e w' ⟨rfl, hb⟩; obtain ⟨hc, hf⟩ := bcell hb; have HB := bstep (by repeat (first | exact HB | apply balloc)) hb)
    | (go_at_call 13; refine (sameC_any m _ _ _ (HL.out.below (by repeat (first | exact HB | apply balloc))) (by omega)).mono ?_; rintro e w' ⟨rfl, hb⟩; obtain ⟨hc, hf⟩ := bcell hb; have HB := bstep (by repeat (first | exact HB | apply balloc)) hb))

  go_ret
  exact ⟨ret_bool HR.out.symm, by repeat (first | exact HB | apply balloc)⟩


set_option maxHeartbeats 8000000 in
theorem right_x (m : Msg) (A : Option Addr) (c : Nat) (w : World) (hl : Strs w A m.keys) (hn : m.keys.length * 16 ≤ 140737488355328) (hs : ∀ s ∈ m.keys, s.size ≤ 9223372036854775807)
    (f0 : numsM m = true) (f1 : (m.kind == 1) = false) (f2 : (m.kind == 2) = false) (f3 : (m.kind == 3) = false) (f4 : (m.kind == 4) = false) (f5 : (m.kind == 0) = false) :
    Calls Tryz.prog 8 #[.agg #[.int .i64 m.kind, .int .i64 m.queue, .int .i64 m.due, .int .i64 m.retry, .int .i64 m.ref, .int .i64 m.born, .string m.topic, .string m.tag, .string m.body, .slice A m.keys.length c]] w fun e w' => e = .returned (.bool (rightM m)) ∧ Below w.heap.size w w' := by
  have HR := Lib.hid (show rightM m = false by simp only [rightM, fillM, f0, f1, f2, f3, f4, f5, if_true, if_false, Bool.false_eq_true, reduceIte, Bool.and_true, Bool.true_and, Bool.false_and, Bool.and_false])
  have HL := Lib.hid hl
  have HS := Lib.hid hs
  clear hl hs
  have HB := Below.refl w.heap.size w
  have hN := nums_any (some ⟨w.heap.size + 1, 0, none⟩) 3 [m.due, m.ref, m.born] ((w.alloc (.cells #[.int .i64 m.kind, .int .i64 m.queue, .int .i64 m.due, .int .i64 m.retry, .int .i64 m.ref, .int .i64 m.born, .string m.topic, .string m.tag, .string m.body, .slice A m.keys.length c] 24)).alloc (.cells #[.int .i64 m.due, .int .i64 m.ref, .int .i64 m.born] 3)) (by
    have := ints_new (w.alloc (.cells #[.int .i64 m.kind, .int .i64 m.queue, .int .i64 m.due, .int .i64 m.retry, .int .i64 m.ref, .int .i64 m.born, .string m.topic, .string m.tag, .string m.body, .slice A m.keys.length c] 24)) [m.due, m.ref, m.born] 3 (by simp)
    simpa using this) (by simp)
  have e0 : allI okN [m.due, m.ref, m.born] = numsM m := rfl
  rw [e0] at hN
  clear e0
  go_enter Tryz.func8, Tryz.ntmps8
  go_wp2_with (first
    | (go_at_call 19; refine hN.mono ?_; rintro e w' ⟨rfl, rfl⟩)
    | (go_at_call 20; refine (carries_any m _ _ _ (HL.out.below (by repeat (first | exact HB | apply balloc))) hn HS.out).mono ?_; rintro e w' ⟨rfl, hb⟩; obtain ⟨hc, hf⟩ := bcell hb; have HB := bstep (by repeat (first | exact HB | apply balloc)) hb)
    | (go_at_call 13; refine (sameC_any m _ _ _ (HL.out.below (by repeat (first | exact HB | apply balloc))) (by omega)).mono ?_; rintro e w' ⟨rfl, hb⟩; obtain ⟨hc, hf⟩ := bcell hb; have HB := bstep (by repeat (first | exact HB | apply balloc)) hb))

  go_ret
  exact ⟨ret_bool HR.out.symm, by repeat (first | exact HB | apply balloc)⟩

end Go.Proofs.YtnlpohcnlmdocaaGreat
