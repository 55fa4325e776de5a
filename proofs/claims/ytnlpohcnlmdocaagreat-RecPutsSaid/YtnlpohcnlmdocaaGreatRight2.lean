/- Whether a record may be: fillers; and all ways joined. -/
import Derived.Test.YtnlpohcnlmdocaaGreatRight
namespace Go.Proofs.YtnlpohcnlmdocaaGreat
open Go.RowKit Go.Shelf
set_option linter.unusedSimpArgs false
set_option linter.unusedVariables false


set_option maxHeartbeats 8000000 in
theorem right_0a (m : Msg) (A : Option Addr) (c : Nat) (w : World) (hl : Strs w A m.keys) (hn : m.keys.length * 16 ≤ 140737488355328) (hs : ∀ s ∈ m.keys, s.size ≤ 9223372036854775807)
    (f0 : numsM m = true) (f1 : (m.kind == 1) = false) (f2 : (m.kind == 2) = false) (f3 : (m.kind == 3) = false) (f4 : (m.kind == 4) = false) (f5 : (m.kind == 0) = true) (f6 : decide ((m.body.size : Int) ≤ 1024) = false) :
    Calls Tryz.prog 8 #[.agg #[.int .i64 m.kind, .int .i64 m.queue, .int .i64 m.due, .int .i64 m.retry, .int .i64 m.ref, .int .i64 m.born, .string m.topic, .string m.tag, .string m.body, .slice A m.keys.length c]] w fun e w' => e = .returned (.bool (rightM m)) ∧ Below w.heap.size w w' := by
  have HR := Lib.hid (show rightM m = false by simp only [rightM, fillM, f0, f1, f2, f3, f4, f5, f6, if_true, if_false, Bool.false_eq_true, reduceIte, Bool.and_true, Bool.true_and, Bool.false_and, Bool.and_false])
  have HL := Lib.hid hl
  have HS := Lib.hid hs
  clear hl hs
  have HB := Below.refl w.heap.size w
  have hN := nums_any (some ⟨w.heap.size + 1, 0, none⟩) 3 [m.due, m.ref, m.born] ((w.alloc (.cells #[.int .i64 m.kind, .int .i64 m.queue, .int .i64 m.due, .int .i64 m.retry, .int .i64 m.ref, .int .i64 m.born, .string m.topic, .string m.tag, .string m.body, .slice A m.keys.length c] 24)).alloc (.cells #[.int .i64 m.due, .int .i64 m.ref, .int .i64 m.born] 3)) (by
    have := ints_new (w.alloc (.cells #[.int .i64 m.kind, .int .i64 m.queue, .int .i64 m.due, .int .i64 m.retry, .int .i64 m.ref, .int .i64 m.born, .string m.topic, .string m.tag, .string m.body, .slice A m.keys.length c] 24)) [m.due, m.ref, m.born] 3 (by simp)
    simpa using this) (by simp)
  have e0 : allI okN [m.due, m.ref, m.born] = numsM m := rfl
  rw [e0] at hN
  clear e0
  go_enter Tryz.func8, Tryz.ntmps8
  go_wp2_with (first
    | (go_at_call 19; refine hN.mono ?_; rintro e w' ⟨rfl, rfl⟩)
    | (go_at_call 20; refine (carries_any m _ _ _ (HL.out.below (by repeat (first | exact HB | apply balloc))) hn HS.out).mono ?_; rintro e w' ⟨rfl, hb⟩; obtain ⟨hc, hf⟩ := bcell hb; have HB := bstep (by repeat (first | exact HB | apply balloc)) hb)
    | (go_at_call 13; refine (sameC_any m _ _ _ (HL.out.below (by repeat (first | exact HB | apply balloc))) (by omega)).mono ?_; rintro e w' ⟨rfl, hb⟩; obtain ⟨hc, hf⟩ := bcell hb; have HB := bstep (by repeat (first | exact HB | apply balloc)) hb))

  go_quiet (fail)
  go_wp2
  go_ret
  exact ⟨ret_bool HR.out.symm, by repeat (first | exact HB | apply bdrewN | apply balloc)⟩


set_option maxHeartbeats 8000000 in
theorem right_0b (m : Msg) (A : Option Addr) (c : Nat) (w : World) (hl : Strs w A m.keys) (hn : m.keys.length * 16 ≤ 140737488355328) (hs : ∀ s ∈ m.keys, s.size ≤ 9223372036854775807)
    (f0 : numsM m = true) (f1 : (m.kind == 1) = false) (f2 : (m.kind == 2) = false) (f3 : (m.kind == 3) = false) (f4 : (m.kind == 4) = false) (f5 : (m.kind == 0) = true) (f6 : decide ((m.body.size : Int) ≤ 1024) = true) (f7 : (m.body.toList == (B (noughtsL m.body.size)).toList) = false) :
    Calls Tryz.prog 8 #[.agg #[.int .i64 m.kind, .int .i64 m.queue, .int .i64 m.due, .int .i64 m.retry, .int .i64 m.ref, .int .i64 m.born, .string m.topic, .string m.tag, .string m.body, .slice A m.keys.length c]] w fun e w' => e = .returned (.bool (rightM m)) ∧ Below w.heap.size w w' := by
  have HR := Lib.hid (show rightM m = false by simp only [rightM, fillM, f0, f1, f2, f3, f4, f5, f6, f7, if_true, if_false, Bool.false_eq_true, reduceIte, Bool.and_true, Bool.true_and, Bool.false_and, Bool.and_false])
  have HL := Lib.hid hl
  have HS := Lib.hid hs
  clear hl hs
  have HB := Below.refl w.heap.size w
  have HZ := Lib.hid (show m.body.size ≤ 140737488355328 by simp at f6; omega)
  have hN := nums_any (some ⟨w.heap.size + 1, 0, none⟩) 3 [m.due, m.ref, m.born] ((w.alloc (.cells #[.int .i64 m.kind, .int .i64 m.queue, .int .i64 m.due, .int .i64 m.retry, .int .i64 m.ref, .int .i64 m.born, .string m.topic, .string m.tag, .string m.body, .slice A m.keys.length c] 24)).alloc (.cells #[.int .i64 m.due, .int .i64 m.ref, .int .i64 m.born] 3)) (by
    have := ints_new (w.alloc (.cells #[.int .i64 m.kind, .int .i64 m.queue, .int .i64 m.due, .int .i64 m.retry, .int .i64 m.ref, .int .i64 m.born, .string m.topic, .string m.tag, .string m.body, .slice A m.keys.length c] 24)) [m.due, m.ref, m.born] 3 (by simp)
    simpa using this) (by simp)
  have e0 : allI okN [m.due, m.ref, m.born] = numsM m := rfl
  rw [e0] at hN
  clear e0
  go_enter Tryz.func8, Tryz.ntmps8
  go_wp2_with (first
    | (go_at_call 19; refine hN.mono ?_; rintro e w' ⟨rfl, rfl⟩)
    | (go_at_call 20; refine (carries_any m _ _ _ (HL.out.below (by repeat (first | exact HB | apply balloc))) hn HS.out).mono ?_; rintro e w' ⟨rfl, hb⟩; obtain ⟨hc, hf⟩ := bcell hb; have HB := bstep (by repeat (first | exact HB | apply balloc)) hb)
    | (go_at_call 13; refine (sameC_any m _ _ _ (HL.out.below (by repeat (first | exact HB | apply balloc))) (by omega)).mono ?_; rintro e w' ⟨rfl, hb⟩; obtain ⟨hc, hf⟩ := bcell hb; have HB := bstep (by repeat (first | exact HB | apply balloc)) hb))

  refine wp_region_held_drew (S := fun W => W.cell? ⟨w.heap.size, 0, none⟩ = some (.int .i64 m.kind) ∧ W.cell? ⟨w.heap.size, 1, none⟩ = some (.int .i64 m.queue) ∧ W.cell? ⟨w.heap.size, 2, none⟩ = some (.int .i64 m.due) ∧ W.cell? ⟨w.heap.size, 3, none⟩ = some (.int .i64 m.retry) ∧ W.cell? ⟨w.heap.size, 4, none⟩ = some (.int .i64 m.ref) ∧ W.cell? ⟨w.heap.size, 5, none⟩ = some (.int .i64 m.born) ∧ W.cell? ⟨w.heap.size, 6, none⟩ = some (.string m.topic) ∧ W.cell? ⟨w.heap.size, 7, none⟩ = some (.string m.tag) ∧ W.cell? ⟨w.heap.size, 8, none⟩ = some (.string m.body) ∧ W.cell? ⟨w.heap.size, 9, none⟩ = some (.slice A m.keys.length c) ∧ w.heap.size < W.heap.size ∧ Below w.heap.size w W) (by kernel_rfl) ?_ (fun hHeld => ?_)
  · (try dsimp only)
    refine ⟨?_, ?_, ?_, ?_, ?_, ?_, ?_, ?_, ?_, ?_, ?_, ?_⟩ <;> first | (simp; done) | (simp; omega) | (repeat (first | exact HB | apply bdrew | apply balloc))
  refine wpAnyH_take (i := 0) (v := ?_) rfl (by kernel_rfl) (by kernel_rfl) (by kernel_rfl) (fun _ _ _ h => h) (Or.inl ⟨by rfl, ?_⟩) (by assumption) ?_
  rotate_left
  · intro W hSw
    (try dsimp only at hSw)
    go_simp
    (try with_reducible rfl)
  (try simp only [Act.put, List.getElem_toArray, List.getElem_cons_succ, List.getElem_cons_zero, List.setIfInBounds_toArray, List.set_cons_zero, List.set_cons_succ])
  refine wpAnyH_take (i := 1) (v := ?_) rfl (by kernel_rfl) (by kernel_rfl) (by kernel_rfl) (fun _ _ _ h => h) (Or.inl ⟨by rfl, ?_⟩) (by assumption) ?_
  rotate_left
  · intro W hSw
    (try dsimp only at hSw)
    go_simp
    (try with_reducible rfl)
  (try simp only [Act.put, List.getElem_toArray, List.getElem_cons_succ, List.getElem_cons_zero, List.setIfInBounds_toArray, List.set_cons_zero, List.set_cons_succ])
  refine wpAnyH_take (i := 2) (v := ?_) rfl (by kernel_rfl) (by kernel_rfl) (by kernel_rfl) (fun _ _ _ h => h) (Or.inl ⟨by rfl, ?_⟩) (by assumption) ?_
  rotate_left
  · intro W hSw
    (try dsimp only at hSw)
    go_simp
    (try with_reducible rfl)
  (try simp only [Act.put, List.getElem_toArray, List.getElem_cons_succ, List.getElem_cons_zero, List.setIfInBounds_toArray, List.set_cons_zero, List.set_cons_succ])
  refine wpAnyH_take (i := 3) (v := ?_) rfl (by kernel_rfl) (by kernel_rfl) (by kernel_rfl) (fun _ _ _ h => h) (Or.inl ⟨by rfl, ?_⟩) (by assumption) ?_
  rotate_left
  · intro W hSw
    (try dsimp only at hSw)
    go_simp
    (try with_reducible rfl)
  (try simp only [Act.put, List.getElem_toArray, List.getElem_cons_succ, List.getElem_cons_zero, List.setIfInBounds_toArray, List.set_cons_zero, List.set_cons_succ])
  refine wpAnyH_take (i := 4) (v := ?_) rfl (by kernel_rfl) (by kernel_rfl) (by kernel_rfl) (fun _ _ _ h => h) (Or.inl ⟨by rfl, ?_⟩) (by assumption) ?_
  rotate_left
  · intro W hSw
    (try dsimp only at hSw)
    go_simp
    (try with_reducible rfl)
  (try simp only [Act.put, List.getElem_toArray, List.getElem_cons_succ, List.getElem_cons_zero, List.setIfInBounds_toArray, List.set_cons_zero, List.set_cons_succ])
  refine wpAnyH_take (i := 5) (v := ?_) rfl (by kernel_rfl) (by kernel_rfl) (by kernel_rfl) (fun _ _ _ h => h) (Or.inl ⟨by rfl, ?_⟩) (by assumption) ?_
  rotate_left
  · intro W hSw
    (try dsimp only at hSw)
    go_simp
    (try with_reducible rfl)
  (try simp only [Act.put, List.getElem_toArray, List.getElem_cons_succ, List.getElem_cons_zero, List.setIfInBounds_toArray, List.set_cons_zero, List.set_cons_succ])
  refine wpAnyH_take (i := 6) (v := ?_) rfl (by kernel_rfl) (by kernel_rfl) (by kernel_rfl) (fun _ _ _ h => h) (Or.inl ⟨by rfl, ?_⟩) (by assumption) ?_
  rotate_left
  · intro W hSw
    (try dsimp only at hSw)
    go_simp
    (try with_reducible rfl)
  (try simp only [Act.put, List.getElem_toArray, List.getElem_cons_succ, List.getElem_cons_zero, List.setIfInBounds_toArray, List.set_cons_zero, List.set_cons_succ])
  refine wpAnyH_take (i := 7) (v := ?_) rfl (by kernel_rfl) (by kernel_rfl) (by kernel_rfl) (fun _ _ _ h => h) (Or.inl ⟨by rfl, ?_⟩) (by assumption) ?_
  rotate_left
  · intro W hSw
    (try dsimp only at hSw)
    go_simp
    (try with_reducible rfl)
  (try simp only [Act.put, List.getElem_toArray, List.getElem_cons_succ, List.getElem_cons_zero, List.setIfInBounds_toArray, List.set_cons_zero, List.set_cons_succ])
  refine wpAnyH_take (i := 8) (v := ?_) rfl (by kernel_rfl) (by kernel_rfl) (by kernel_rfl) (fun _ _ _ h => h) (Or.inl ⟨by rfl, ?_⟩) (by assumption) ?_
  rotate_left
  · intro W hSw
    (try dsimp only at hSw)
    go_simp
    (try with_reducible rfl)
  (try simp only [Act.put, List.getElem_toArray, List.getElem_cons_succ, List.getElem_cons_zero, List.setIfInBounds_toArray, List.set_cons_zero, List.set_cons_succ])
  refine wpAnyH_take (i := 9) (v := ?_) rfl (by kernel_rfl) (by kernel_rfl) (by kernel_rfl) (fun _ _ _ h => h) (Or.inl ⟨by rfl, ?_⟩) (by assumption) ?_
  rotate_left
  · intro W hSw
    (try dsimp only at hSw)
    go_simp
    (try with_reducible rfl)
  (try simp only [Act.put, List.getElem_toArray, List.getElem_cons_succ, List.getElem_cons_zero, List.setIfInBounds_toArray, List.set_cons_zero, List.set_cons_succ])
  refine wpAnyH_ready (rs := [10]) (by kernel_rfl) (by simp) ?_
  refine AllReadyH.cons rfl (fun K hK => ?_) AllReadyH.nil
  rw [if_pos (by rfl)]
  simp only [List.getElem_toArray, List.getElem_cons_succ, List.getElem_cons_zero]
  go_simp
  go_at_call 21
  refine (noughts_any _ _ HZ.out).mono ?_
  rintro e w' ⟨rfl, hb⟩
  obtain ⟨hc, hf⟩ := bcell hb
  dsimp only
  refine hK.out _ _ ?_ (fun hHeld => ?_)
  · (try dsimp only at hHeld)
    go_split_ands
    (try dsimp only)
    refine ⟨?_, ?_, ?_, ?_, ?_, ?_, ?_, ?_, ?_, ?_, ?_, ?_⟩ <;> first | (rw [hc _ _ (by assumption)]; assumption) | (exact bstep (by assumption) hb) | (have := hb.size; omega)
  clear hK K
  (try simp only [Act.put, List.getElem_toArray, List.getElem_cons_succ, List.getElem_cons_zero, List.setIfInBounds_toArray, List.set_cons_zero, List.set_cons_succ])
  refine wpAnyH_take (i := 11) (v := ?_) rfl (by kernel_rfl) (by kernel_rfl) (by kernel_rfl) (fun _ _ _ h => h) (Or.inl ⟨by rfl, ?_⟩) (by assumption) ?_
  rotate_left
  · intro W hSw
    (try dsimp only at hSw)
    go_simp
    (try with_reducible rfl)
  (try simp only [Act.put, List.getElem_toArray, List.getElem_cons_succ, List.getElem_cons_zero, List.setIfInBounds_toArray, List.set_cons_zero, List.set_cons_succ])
  refine wpAnyH_take (i := 12) (v := ?_) rfl (by kernel_rfl) (by kernel_rfl) (by kernel_rfl) (fun _ _ _ h => h) (Or.inl ⟨by rfl, ?_⟩) (by assumption) ?_
  rotate_left
  · intro W hSw
    (try dsimp only at hSw)
    go_simp
    (try with_reducible rfl)
  (try simp only [Act.put, List.getElem_toArray, List.getElem_cons_succ, List.getElem_cons_zero, List.setIfInBounds_toArray, List.set_cons_zero, List.set_cons_succ])
  refine wpAnyH_take (i := 13) (v := ?_) rfl (by kernel_rfl) (by kernel_rfl) (by kernel_rfl) (fun _ _ _ h => h) (Or.inl ⟨by rfl, ?_⟩) (by assumption) ?_
  rotate_left
  · intro W hSw
    (try dsimp only at hSw)
    go_simp
    (try with_reducible rfl)
  (try simp only [Act.put, List.getElem_toArray, List.getElem_cons_succ, List.getElem_cons_zero, List.setIfInBounds_toArray, List.set_cons_zero, List.set_cons_succ])
  refine wpAnyH_take (i := 14) (v := undef) rfl (by kernel_rfl) (by kernel_rfl) (by kernel_rfl) (fun _ _ _ h => h) (Or.inr ⟨by rfl, rfl⟩) (by assumption) ?_
  (try simp only [Act.put, List.getElem_toArray, List.getElem_cons_succ, List.getElem_cons_zero, List.setIfInBounds_toArray, List.set_cons_zero, List.set_cons_succ])
  refine wpAnyH_take (i := 15) (v := undef) rfl (by kernel_rfl) (by kernel_rfl) (by kernel_rfl) (fun _ _ _ h => h) (Or.inr ⟨by rfl, rfl⟩) (by assumption) ?_
  (try simp only [Act.put, List.getElem_toArray, List.getElem_cons_succ, List.getElem_cons_zero, List.setIfInBounds_toArray, List.set_cons_zero, List.set_cons_succ])
  refine wpAnyH_take (i := 16) (v := undef) rfl (by kernel_rfl) (by kernel_rfl) (by kernel_rfl) (fun _ _ _ h => h) (Or.inr ⟨by rfl, rfl⟩) (by assumption) ?_
  (try simp only [Act.put, List.getElem_toArray, List.getElem_cons_succ, List.getElem_cons_zero, List.setIfInBounds_toArray, List.set_cons_zero, List.set_cons_succ])
  refine wpAnyH_take (i := 17) (v := undef) rfl (by kernel_rfl) (by kernel_rfl) (by kernel_rfl) (fun _ _ _ h => h) (Or.inr ⟨by rfl, rfl⟩) (by assumption) ?_
  (try simp only [Act.put, List.getElem_toArray, List.getElem_cons_succ, List.getElem_cons_zero, List.setIfInBounds_toArray, List.set_cons_zero, List.set_cons_succ])
  refine wpAnyH_take (i := 18) (v := undef) rfl (by kernel_rfl) (by kernel_rfl) (by kernel_rfl) (fun _ _ _ h => h) (Or.inr ⟨by rfl, rfl⟩) (by assumption) ?_
  (try simp only [Act.put, List.getElem_toArray, List.getElem_cons_succ, List.getElem_cons_zero, List.setIfInBounds_toArray, List.set_cons_zero, List.set_cons_succ])
  refine wpAnyH_take (i := 19) (v := ?_) rfl (by kernel_rfl) (by kernel_rfl) (by kernel_rfl) (fun _ _ _ h => h) (Or.inl ⟨by rfl, ?_⟩) (by assumption) ?_
  rotate_left
  · intro W hSw
    (try dsimp only at hSw)
    go_simp
    (try with_reducible rfl)
  (try simp only [Act.put, List.getElem_toArray, List.getElem_cons_succ, List.getElem_cons_zero, List.setIfInBounds_toArray, List.set_cons_zero, List.set_cons_succ])
  refine wpAnyH_take (i := 20) (v := ?_) rfl (by kernel_rfl) (by kernel_rfl) (by kernel_rfl) (fun _ _ _ h => h) (Or.inl ⟨by rfl, ?_⟩) (by assumption) ?_
  rotate_left
  · intro W hSw
    (try dsimp only at hSw)
    go_simp
    (try with_reducible rfl)
  (try simp only [Act.put, List.getElem_toArray, List.getElem_cons_succ, List.getElem_cons_zero, List.setIfInBounds_toArray, List.set_cons_zero, List.set_cons_succ])
  refine wpAnyH_done (by kernel_rfl) ?_ _
  go_wp2
  (try dsimp only at hHeld)
  (try go_split_ands)
  go_ret
  exact ⟨ret_bool HR.out.symm, by assumption⟩


set_option maxHeartbeats 8000000 in
theorem right_0c (m : Msg) (A : Option Addr) (c : Nat) (w : World) (hl : Strs w A m.keys) (hn : m.keys.length * 16 ≤ 140737488355328) (hs : ∀ s ∈ m.keys, s.size ≤ 9223372036854775807)
    (f0 : numsM m = true) (f1 : (m.kind == 1) = false) (f2 : (m.kind == 2) = false) (f3 : (m.kind == 3) = false) (f4 : (m.kind == 4) = false) (f5 : (m.kind == 0) = true) (f6 : decide ((m.body.size : Int) ≤ 1024) = true) (f7 : (m.body.toList == (B (noughtsL m.body.size)).toList) = true) :
    Calls Tryz.prog 8 #[.agg #[.int .i64 m.kind, .int .i64 m.queue, .int .i64 m.due, .int .i64 m.retry, .int .i64 m.ref, .int .i64 m.born, .string m.topic, .string m.tag, .string m.body, .slice A m.keys.length c]] w fun e w' => e = .returned (.bool (rightM m)) ∧ Below w.heap.size w w' := by
  have HR := Lib.hid (show rightM m = sameM m (bareM m) by simp only [rightM, fillM, f0, f1, f2, f3, f4, f5, f6, f7, if_true, if_false, Bool.false_eq_true, reduceIte, Bool.and_true, Bool.true_and, Bool.false_and, Bool.and_false])
  have HL := Lib.hid hl
  have HS := Lib.hid hs
  clear hl hs
  have HB := Below.refl w.heap.size w
  have HZ := Lib.hid (show m.body.size ≤ 140737488355328 by simp at f6; omega)
  have hN := nums_any (some ⟨w.heap.size + 1, 0, none⟩) 3 [m.due, m.ref, m.born] ((w.alloc (.cells #[.int .i64 m.kind, .int .i64 m.queue, .int .i64 m.due, .int .i64 m.retry, .int .i64 m.ref, .int .i64 m.born, .string m.topic, .string m.tag, .string m.body, .slice A m.keys.length c] 24)).alloc (.cells #[.int .i64 m.due, .int .i64 m.ref, .int .i64 m.born] 3)) (by
    have := ints_new (w.alloc (.cells #[.int .i64 m.kind, .int .i64 m.queue, .int .i64 m.due, .int .i64 m.retry, .int .i64 m.ref, .int .i64 m.born, .string m.topic, .string m.tag, .string m.body, .slice A m.keys.length c] 24)) [m.due, m.ref, m.born] 3 (by simp)
    simpa using this) (by simp)
  have e0 : allI okN [m.due, m.ref, m.born] = numsM m := rfl
  rw [e0] at hN
  clear e0
  go_enter Tryz.func8, Tryz.ntmps8
  go_wp2_with (first
    | (go_at_call 19; refine hN.mono ?_; rintro e w' ⟨rfl, rfl⟩)
    | (go_at_call 20; refine (carries_any m _ _ _ (HL.out.below (by repeat (first | exact HB | apply balloc))) hn HS.out).mono ?_; rintro e w' ⟨rfl, hb⟩; obtain ⟨hc, hf⟩ := bcell hb; have HB := bstep (by repeat (first | exact HB | apply balloc)) hb)
    | (go_at_call 13; refine (sameC_any m _ _ _ (HL.out.below (by repeat (first | exact HB | apply balloc))) (by omega)).mono ?_; rintro e w' ⟨rfl, hb⟩; obtain ⟨hc, hf⟩ := bcell hb; have HB := bstep (by repeat (first | exact HB | apply balloc)) hb))

  go_region_held3 (fun W => W.cell? ⟨w.heap.size, 0, none⟩ = some (.int .i64 m.kind) ∧ W.cell? ⟨w.heap.size, 1, none⟩ = some (.int .i64 m.queue) ∧ W.cell? ⟨w.heap.size, 2, none⟩ = some (.int .i64 m.due) ∧ W.cell? ⟨w.heap.size, 3, none⟩ = some (.int .i64 m.retry) ∧ W.cell? ⟨w.heap.size, 4, none⟩ = some (.int .i64 m.ref) ∧ W.cell? ⟨w.heap.size, 5, none⟩ = some (.int .i64 m.born) ∧ W.cell? ⟨w.heap.size, 6, none⟩ = some (.string m.topic) ∧ W.cell? ⟨w.heap.size, 7, none⟩ = some (.string m.tag) ∧ W.cell? ⟨w.heap.size, 8, none⟩ = some (.string m.body) ∧ W.cell? ⟨w.heap.size, 9, none⟩ = some (.slice A m.keys.length c) ∧ w.heap.size < W.heap.size ∧ Below w.heap.size w W)
    (first
      | ((try go_split_ands); refine ⟨?_, ?_, ?_, ?_, ?_, ?_, ?_, ?_, ?_, ?_, ?_, ?_⟩ <;> first | assumption | (exact bdrew (by assumption)) | (simp only [World.cell?_drew]; assumption) | (rw [hc _ _ (by assumption)]; assumption) | (exact bstep (by assumption) hb) | (have := hb.size; omega) | (simp; done) | (simp; omega) | (repeat (first | exact HB | apply bdrew | apply balloc)))
      | go_keep)
    (first
      | (go_at_call 21; refine (noughts_any _ _ HZ.out).mono ?_; rintro e w' ⟨rfl, hb⟩; obtain ⟨hc, hf⟩ := bcell hb)
      | (go_at_call 13; (try go_split_ands); refine (sameB_any m _ _ _ (HL.out.below ?_) ?_).mono ?_; (assumption); (omega); rintro e w' ⟨rfl, hb⟩; obtain ⟨hc, hf⟩ := bcell hb))
  go_wp2
  (try go_split_ands)
  go_ret
  exact ⟨ret_bool HR.out.symm, by first | assumption | (exact bstep (by assumption) hb) | (repeat (first | exact HB | apply bdrew | apply balloc))⟩


theorem right_any (m : Msg) (A : Option Addr) (c : Nat) (w : World) (hl : Strs w A m.keys) (hn : m.keys.length * 16 ≤ 140737488355328) (hs : ∀ s ∈ m.keys, s.size ≤ 9223372036854775807) :
    Calls Tryz.prog 8 #[.agg #[.int .i64 m.kind, .int .i64 m.queue, .int .i64 m.due, .int .i64 m.retry, .int .i64 m.ref, .int .i64 m.born, .string m.topic, .string m.tag, .string m.body, .slice A m.keys.length c]] w fun e w' => e = .returned (.bool (rightM m)) ∧ Below w.heap.size w w' := by
  rcases Bool.eq_false_or_eq_true (numsM m) with h | h
  rotate_left
  · exact right_n m A c w hl hn hs h
  rcases kind_cases m.kind with ⟨k1, k2, k3, k4, k0⟩ | ⟨k1, k2, k3, k4, k0⟩ | ⟨k1, k2, k3, k4, k0⟩ | ⟨k1, k2, k3, k4, k0⟩ | ⟨k1, k2, k3, k4, k0⟩ | ⟨k1, k2, k3, k4, k0⟩
  · rcases Bool.eq_false_or_eq_true (carriesM m) with g | g
    · rcases Bool.eq_false_or_eq_true (m.due == 0) with d | d
      · exact right_1c m A c w hl hn hs h k1 k2 k3 k4 k0 g d
      · exact right_1b m A c w hl hn hs h k1 k2 k3 k4 k0 g d
    · exact right_1a m A c w hl hn hs h k1 k2 k3 k4 k0 g
  · exact right_2 m A c w hl hn hs h k1 k2 k3 k4 k0
  · exact right_3 m A c w hl hn hs h k1 k2 k3 k4 k0
  · exact right_4 m A c w hl hn hs h k1 k2 k3 k4 k0
  · rcases Bool.eq_false_or_eq_true (decide ((m.body.size : Int) ≤ 1024)) with g | g
    · rcases Bool.eq_false_or_eq_true (m.body.toList == (B (noughtsL m.body.size)).toList) with d | d
      · exact right_0c m A c w hl hn hs h k1 k2 k3 k4 k0 g d
      · exact right_0b m A c w hl hn hs h k1 k2 k3 k4 k0 g d
    · exact right_0a m A c w hl hn hs h k1 k2 k3 k4 k0 g
  · exact right_x m A c w hl hn hs h k1 k2 k3 k4 k0

end Go.Proofs.YtnlpohcnlmdocaaGreat
