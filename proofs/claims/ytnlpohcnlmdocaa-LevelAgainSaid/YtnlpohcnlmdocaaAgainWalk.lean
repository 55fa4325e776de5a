/- The walk of LevelAgain: where nothing comes. -/
import Derived.BigQuiet
import Derived.Test.YtnlpohcnlmdocaaAgainLaw
namespace Go.Proofs.Ytnlpohcnlmdocaa
open Go.RowKit Go.Shelf
set_option linter.unusedSimpArgs false
set_option linter.unusedVariables false


set_option maxRecDepth 100000 in
set_option maxHeartbeats 8000000 in
theorem la_0 (m : Msg) (A : Option Addr) (c : Nat) (id : Int) (g : ByteArray) (now : Int) (w : World) (hl : Strs w A m.keys) (wi : (Lit.int .i64 id).wf = true) (wn : (Lit.int .i64 now).wf = true) (hG : greatM m = true) :
    Calls Try.prog 5 #[.agg #[.int .i64 m.kind, .int .i64 m.queue, .int .i64 m.due, .int .i64 m.retry, .int .i64 m.ref, .int .i64 m.born, .string m.topic, .string m.tag, .string m.body, .slice A m.keys.length c], .string g, .agg #[.int .i64 id, .int .i64 now]] w fun e w' => e = .returned (.bool true) ∧ Below w.heap.size w w' := by
  have HL := Lib.hid hl
  clear hl
  go_enter Try.func5, Try.ntmps5
  go_wp2_with (first
    | (go_at_call 9; refine (awake_any _).mono ?_; rintro e w' ⟨rfl, rfl⟩)
    | (go_at_call 20; refine (great_any m A c (w.heap.size + 2) _ (HL.out.below (by repeat (first | exact Below.refl _ _ | apply balloc | apply bdrew | apply bdrewN))) (blk_at (Blk.new _ _ _) (by simp))).mono ?_; rintro e w1 ⟨rfl, hb⟩
       have HB1 : Below w.heap.size w w1 := bstep (by repeat (first | exact Below.refl _ _ | apply balloc | apply bdrew | apply bdrewN)) hb
       have b3 : Blk w1 w.heap.size 39 #[.int .i64 m.kind, .int .i64 m.queue, .int .i64 m.due, .int .i64 m.retry, .int .i64 m.ref, .int .i64 m.born, .string m.topic, .string m.tag, .string m.body, .slice A m.keys.length c] := Blk.later (Blk.later (Blk.new w 39 #[.int .i64 m.kind, .int .i64 m.queue, .int .i64 m.due, .int .i64 m.retry, .int .i64 m.ref, .int .i64 m.born, .string m.topic, .string m.tag, .string m.body, .slice A m.keys.length c]) (by repeat (first | exact Below.refl _ _ | apply balloc | apply bdrew | apply bdrewN))) hb
       have hc3 := b3.cell))
  go_quiet (fail)
  go_wp2_with (first
    | (go_at_call 9; refine (awake_any _).mono ?_; rintro e w' ⟨rfl, rfl⟩)
    | (go_at_call 20; refine (great_any m A c (w.heap.size + 2) _ (HL.out.below (by repeat (first | exact Below.refl _ _ | apply balloc | apply bdrew | apply bdrewN))) (blk_at (Blk.new _ _ _) (by simp))).mono ?_; rintro e w1 ⟨rfl, hb⟩
       have HB1 : Below w.heap.size w w1 := bstep (by repeat (first | exact Below.refl _ _ | apply balloc | apply bdrew | apply bdrewN)) hb
       have b3 : Blk w1 w.heap.size 39 #[.int .i64 m.kind, .int .i64 m.queue, .int .i64 m.due, .int .i64 m.retry, .int .i64 m.ref, .int .i64 m.born, .string m.topic, .string m.tag, .string m.body, .slice A m.keys.length c] := Blk.later (Blk.later (Blk.new w 39 #[.int .i64 m.kind, .int .i64 m.queue, .int .i64 m.due, .int .i64 m.retry, .int .i64 m.ref, .int .i64 m.born, .string m.topic, .string m.tag, .string m.body, .slice A m.keys.length c]) (by repeat (first | exact Below.refl _ _ | apply balloc | apply bdrew | apply bdrewN))) hb
       have hc3 := b3.cell))
  go_ret
  exact ⟨rfl, HB1⟩


set_option maxRecDepth 100000 in
set_option maxHeartbeats 8000000 in
theorem la_1 (m : Msg) (A : Option Addr) (c : Nat) (id : Int) (g : ByteArray) (now : Int) (w : World) (hl : Strs w A m.keys) (wi : (Lit.int .i64 id).wf = true) (wn : (Lit.int .i64 now).wf = true) (hG : greatM m = false) (hS : decide ((100 : Int) < (g.size : Int)) = true) :
    Calls Try.prog 5 #[.agg #[.int .i64 m.kind, .int .i64 m.queue, .int .i64 m.due, .int .i64 m.retry, .int .i64 m.ref, .int .i64 m.born, .string m.topic, .string m.tag, .string m.body, .slice A m.keys.length c], .string g, .agg #[.int .i64 id, .int .i64 now]] w fun e w' => e = .returned (.bool true) ∧ Below w.heap.size w w' := by
  have HL := Lib.hid hl
  clear hl
  go_enter Try.func5, Try.ntmps5
  go_wp2_with (first
    | (go_at_call 9; refine (awake_any _).mono ?_; rintro e w' ⟨rfl, rfl⟩)
    | (go_at_call 20; refine (great_any m A c (w.heap.size + 2) _ (HL.out.below (by repeat (first | exact Below.refl _ _ | apply balloc | apply bdrew | apply bdrewN))) (blk_at (Blk.new _ _ _) (by simp))).mono ?_; rintro e w1 ⟨rfl, hb⟩
       have HB1 : Below w.heap.size w w1 := bstep (by repeat (first | exact Below.refl _ _ | apply balloc | apply bdrew | apply bdrewN)) hb
       have b3 : Blk w1 w.heap.size 39 #[.int .i64 m.kind, .int .i64 m.queue, .int .i64 m.due, .int .i64 m.retry, .int .i64 m.ref, .int .i64 m.born, .string m.topic, .string m.tag, .string m.body, .slice A m.keys.length c] := Blk.later (Blk.later (Blk.new w 39 #[.int .i64 m.kind, .int .i64 m.queue, .int .i64 m.due, .int .i64 m.retry, .int .i64 m.ref, .int .i64 m.born, .string m.topic, .string m.tag, .string m.body, .slice A m.keys.length c]) (by repeat (first | exact Below.refl _ _ | apply balloc | apply bdrew | apply bdrewN))) hb
       have hc3 := b3.cell))
  go_quiet (fail)
  go_wp2_with (first
    | (go_at_call 9; refine (awake_any _).mono ?_; rintro e w' ⟨rfl, rfl⟩)
    | (go_at_call 20; refine (great_any m A c (w.heap.size + 2) _ (HL.out.below (by repeat (first | exact Below.refl _ _ | apply balloc | apply bdrew | apply bdrewN))) (blk_at (Blk.new _ _ _) (by simp))).mono ?_; rintro e w1 ⟨rfl, hb⟩
       have HB1 : Below w.heap.size w w1 := bstep (by repeat (first | exact Below.refl _ _ | apply balloc | apply bdrew | apply bdrewN)) hb
       have b3 : Blk w1 w.heap.size 39 #[.int .i64 m.kind, .int .i64 m.queue, .int .i64 m.due, .int .i64 m.retry, .int .i64 m.ref, .int .i64 m.born, .string m.topic, .string m.tag, .string m.body, .slice A m.keys.length c] := Blk.later (Blk.later (Blk.new w 39 #[.int .i64 m.kind, .int .i64 m.queue, .int .i64 m.due, .int .i64 m.retry, .int .i64 m.ref, .int .i64 m.born, .string m.topic, .string m.tag, .string m.body, .slice A m.keys.length c]) (by repeat (first | exact Below.refl _ _ | apply balloc | apply bdrew | apply bdrewN))) hb
       have hc3 := b3.cell))
  go_ret
  exact ⟨rfl, HB1⟩


theorem sameZ_any (A : Option Addr) (c : Nat) (w : World) : Calls Try.prog 24 #[.agg #[.int .i64 0, .int .i64 0, .int .i64 0, .int .i64 0, .int .i64 0, .int .i64 0, .string ⟨#[]⟩, .string ⟨#[]⟩, .string ⟨#[]⟩, .slice A 0 c], .agg #[.int .i64 0, .int .i64 0, .int .i64 0, .int .i64 0, .int .i64 0, .int .i64 0, .string ⟨#[]⟩, .string ⟨#[]⟩, .string ⟨#[]⟩, .slice none 0 0]] w fun e w' => e = .returned (.bool true) ∧ Below w.heap.size w w' := by
  have h := rSame_any zeroM zeroM A none c 0 w (fun h => absurd rfl h) (fun h => absurd rfl h) (Nat.zero_le _) (Nat.zero_le _)
  rw [sameM_self] at h
  exact h


set_option maxRecDepth 100000 in
set_option maxHeartbeats 8000000 in
theorem la_g (m : Msg) (A : Option Addr) (c : Nat) (id : Int) (g : ByteArray) (now : Int) (w : World) (hl : Strs w A m.keys) (wi : (Lit.int .i64 id).wf = true) (wn : (Lit.int .i64 now).wf = true) (hG : greatM m = false) (hS : decide ((100 : Int) < (g.size : Int)) = false) (f0 : groupL (L g) = false) :
    Calls Try.prog 5 #[.agg #[.int .i64 m.kind, .int .i64 m.queue, .int .i64 m.due, .int .i64 m.retry, .int .i64 m.ref, .int .i64 m.born, .string m.topic, .string m.tag, .string m.body, .slice A m.keys.length c], .string g, .agg #[.int .i64 id, .int .i64 now]] w fun e w' => e = .returned (.bool true) ∧ Below w.heap.size w w' := by
  obtain ⟨hn, hs, -, hzb, hzt, hzg⟩ := great_low hG
  have HS := Lib.hid hs
  have hgz : g.size ≤ 100 := by simp at hS; omega
  have hz1 : m.topic.size ≤ 9223372036854775807 := by omega
  have hz2 : m.tag.size ≤ 9223372036854775807 := by omega
  have hz3 : m.body.size ≤ 9223372036854775806 := by omega
  clear hs
  have HL := Lib.hid hl
  clear hl
  go_enter Try.func5, Try.ntmps5
  go_wp2_with (first
    | (go_at_call 9; refine (awake_any _).mono ?_; rintro e w' ⟨rfl, rfl⟩)
    | (go_at_call 20; refine (great_any m A c (w.heap.size + 2) _ (HL.out.below (by repeat (first | exact Below.refl _ _ | apply balloc | apply bdrew | apply bdrewN))) (blk_at (Blk.new _ _ _) (by simp))).mono ?_; rintro e w1 ⟨rfl, hb⟩
       have HB1 : Below w.heap.size w w1 := bstep (by repeat (first | exact Below.refl _ _ | apply balloc | apply bdrew | apply bdrewN)) hb
       have b3 : Blk w1 w.heap.size 39 #[.int .i64 m.kind, .int .i64 m.queue, .int .i64 m.due, .int .i64 m.retry, .int .i64 m.ref, .int .i64 m.born, .string m.topic, .string m.tag, .string m.body, .slice A m.keys.length c] := Blk.later (Blk.later (Blk.new w 39 #[.int .i64 m.kind, .int .i64 m.queue, .int .i64 m.due, .int .i64 m.retry, .int .i64 m.ref, .int .i64 m.born, .string m.topic, .string m.tag, .string m.body, .slice A m.keys.length c]) (by repeat (first | exact Below.refl _ _ | apply balloc | apply bdrew | apply bdrewN))) hb
       have hc3 := b3.cell))
  go_quiet (fail)
  go_wp2_with (first
    | (go_at_call 9; refine (awake_any _).mono ?_; rintro e w' ⟨rfl, rfl⟩)
    | (go_at_call 20; refine (great_any m A c (w.heap.size + 2) _ (HL.out.below (by repeat (first | exact Below.refl _ _ | apply balloc | apply bdrew | apply bdrewN))) (blk_at (Blk.new _ _ _) (by simp))).mono ?_; rintro e w1 ⟨rfl, hb⟩
       have HB1 : Below w.heap.size w w1 := bstep (by repeat (first | exact Below.refl _ _ | apply balloc | apply bdrew | apply bdrewN)) hb
       have b3 : Blk w1 w.heap.size 39 #[.int .i64 m.kind, .int .i64 m.queue, .int .i64 m.due, .int .i64 m.retry, .int .i64 m.ref, .int .i64 m.born, .string m.topic, .string m.tag, .string m.body, .slice A m.keys.length c] := Blk.later (Blk.later (Blk.new w 39 #[.int .i64 m.kind, .int .i64 m.queue, .int .i64 m.due, .int .i64 m.retry, .int .i64 m.ref, .int .i64 m.born, .string m.topic, .string m.tag, .string m.body, .slice A m.keys.length c]) (by repeat (first | exact Below.refl _ _ | apply balloc | apply bdrew | apply bdrewN))) hb
       have hc3 := b3.cell)
    | (go_at_call 21; refine (ag_g m A c id g now _ (HL.out.below HB1) hn HS.out (by omega) f0).mono ?_; rintro e w2 ⟨A2, c2, rfl, hrow, hb⟩
       have HB2 : Below w.heap.size w w2 := bstep HB1 hb
       have b32 := b3.later hb
       have HG0 : w.heap.size < w2.heap.size := b32.lt
       clear hc3
       have hc3 := b32.cell
       have hA : Below w2.heap.size w2 (w2.alloc (.cells #[.int .i64 0, .int .i64 0, .int .i64 0, .int .i64 0, .int .i64 0, .int .i64 0, .string ⟨#[]⟩, .string ⟨#[]⟩, .string ⟨#[]⟩, .slice A2 0 c2] 39)) := balloc (Below.refl _ _)
       have HBa : Below w.heap.size w (w2.alloc (.cells #[.int .i64 0, .int .i64 0, .int .i64 0, .int .i64 0, .int .i64 0, .int .i64 0, .string ⟨#[]⟩, .string ⟨#[]⟩, .string ⟨#[]⟩, .slice A2 0 c2] 39)) := bstep HB2 hA
       have b3a := b32.later hA
       have bXa : Blk (w2.alloc (.cells #[.int .i64 0, .int .i64 0, .int .i64 0, .int .i64 0, .int .i64 0, .int .i64 0, .string ⟨#[]⟩, .string ⟨#[]⟩, .string ⟨#[]⟩, .slice A2 0 c2] 39)) w2.heap.size 39 #[.int .i64 0, .int .i64 0, .int .i64 0, .int .i64 0, .int .i64 0, .int .i64 0, .string ⟨#[]⟩, .string ⟨#[]⟩, .string ⟨#[]⟩, .slice A2 0 c2] := Blk.new _ _ _
       have hrowa := Lib.hid (ownsRow_later hrow hA)
       clear hrow)
    | (go_at_call 23; refine (rGroup_any _ _ (by omega)).mono ?_; rintro e w' ⟨rfl, rfl⟩)
    | (go_at_call 24; refine (sameZ_any _ _ _).mono ?_; rintro e w9 ⟨rfl, hb⟩
       have HB9 : Below w.heap.size w w9 := bstep HBa hb))
  go_ret
  exact ⟨rfl, HB9⟩


set_option maxRecDepth 100000 in
set_option maxHeartbeats 8000000 in
theorem la_r (m : Msg) (A : Option Addr) (c : Nat) (id : Int) (g : ByteArray) (now : Int) (w : World) (hl : Strs w A m.keys) (wi : (Lit.int .i64 id).wf = true) (wn : (Lit.int .i64 now).wf = true) (hG : greatM m = false) (hS : decide ((100 : Int) < (g.size : Int)) = false) (f0 : groupL (L g) = true) (f1 : rightM m = false) :
    Calls Try.prog 5 #[.agg #[.int .i64 m.kind, .int .i64 m.queue, .int .i64 m.due, .int .i64 m.retry, .int .i64 m.ref, .int .i64 m.born, .string m.topic, .string m.tag, .string m.body, .slice A m.keys.length c], .string g, .agg #[.int .i64 id, .int .i64 now]] w fun e w' => e = .returned (.bool true) ∧ Below w.heap.size w w' := by
  obtain ⟨hn, hs, -, hzb, hzt, hzg⟩ := great_low hG
  have HS := Lib.hid hs
  have hgz : g.size ≤ 100 := by simp at hS; omega
  have hz1 : m.topic.size ≤ 9223372036854775807 := by omega
  have hz2 : m.tag.size ≤ 9223372036854775807 := by omega
  have hz3 : m.body.size ≤ 9223372036854775806 := by omega
  clear hs
  have HM := Lib.hid (show mayM m = false by simp only [mayM, f1, Bool.false_and])
  have HL := Lib.hid hl
  clear hl
  go_enter Try.func5, Try.ntmps5
  go_wp2_with (first
    | (go_at_call 9; refine (awake_any _).mono ?_; rintro e w' ⟨rfl, rfl⟩)
    | (go_at_call 20; refine (great_any m A c (w.heap.size + 2) _ (HL.out.below (by repeat (first | exact Below.refl _ _ | apply balloc | apply bdrew | apply bdrewN))) (blk_at (Blk.new _ _ _) (by simp))).mono ?_; rintro e w1 ⟨rfl, hb⟩
       have HB1 : Below w.heap.size w w1 := bstep (by repeat (first | exact Below.refl _ _ | apply balloc | apply bdrew | apply bdrewN)) hb
       have b3 : Blk w1 w.heap.size 39 #[.int .i64 m.kind, .int .i64 m.queue, .int .i64 m.due, .int .i64 m.retry, .int .i64 m.ref, .int .i64 m.born, .string m.topic, .string m.tag, .string m.body, .slice A m.keys.length c] := Blk.later (Blk.later (Blk.new w 39 #[.int .i64 m.kind, .int .i64 m.queue, .int .i64 m.due, .int .i64 m.retry, .int .i64 m.ref, .int .i64 m.born, .string m.topic, .string m.tag, .string m.body, .slice A m.keys.length c]) (by repeat (first | exact Below.refl _ _ | apply balloc | apply bdrew | apply bdrewN))) hb
       have hc3 := b3.cell))
  go_quiet (fail)
  go_wp2_with (first
    | (go_at_call 9; refine (awake_any _).mono ?_; rintro e w' ⟨rfl, rfl⟩)
    | (go_at_call 20; refine (great_any m A c (w.heap.size + 2) _ (HL.out.below (by repeat (first | exact Below.refl _ _ | apply balloc | apply bdrew | apply bdrewN))) (blk_at (Blk.new _ _ _) (by simp))).mono ?_; rintro e w1 ⟨rfl, hb⟩
       have HB1 : Below w.heap.size w w1 := bstep (by repeat (first | exact Below.refl _ _ | apply balloc | apply bdrew | apply bdrewN)) hb
       have b3 : Blk w1 w.heap.size 39 #[.int .i64 m.kind, .int .i64 m.queue, .int .i64 m.due, .int .i64 m.retry, .int .i64 m.ref, .int .i64 m.born, .string m.topic, .string m.tag, .string m.body, .slice A m.keys.length c] := Blk.later (Blk.later (Blk.new w 39 #[.int .i64 m.kind, .int .i64 m.queue, .int .i64 m.due, .int .i64 m.retry, .int .i64 m.ref, .int .i64 m.born, .string m.topic, .string m.tag, .string m.body, .slice A m.keys.length c]) (by repeat (first | exact Below.refl _ _ | apply balloc | apply bdrew | apply bdrewN))) hb
       have hc3 := b3.cell)
    | (go_at_call 21; refine (ag_m m A c id g now _ (HL.out.below HB1) hn HS.out (by omega) f0 HM.out).mono ?_; rintro e w2 ⟨A2, c2, rfl, hrow, hb⟩
       have HB2 : Below w.heap.size w w2 := bstep HB1 hb
       have b32 := b3.later hb
       have HG0 : w.heap.size < w2.heap.size := b32.lt
       clear hc3
       have hc3 := b32.cell
       have hA : Below w2.heap.size w2 (w2.alloc (.cells #[.int .i64 0, .int .i64 0, .int .i64 0, .int .i64 0, .int .i64 0, .int .i64 0, .string ⟨#[]⟩, .string ⟨#[]⟩, .string ⟨#[]⟩, .slice A2 0 c2] 39)) := balloc (Below.refl _ _)
       have HBa : Below w.heap.size w (w2.alloc (.cells #[.int .i64 0, .int .i64 0, .int .i64 0, .int .i64 0, .int .i64 0, .int .i64 0, .string ⟨#[]⟩, .string ⟨#[]⟩, .string ⟨#[]⟩, .slice A2 0 c2] 39)) := bstep HB2 hA
       have b3a := b32.later hA
       have bXa : Blk (w2.alloc (.cells #[.int .i64 0, .int .i64 0, .int .i64 0, .int .i64 0, .int .i64 0, .int .i64 0, .string ⟨#[]⟩, .string ⟨#[]⟩, .string ⟨#[]⟩, .slice A2 0 c2] 39)) w2.heap.size 39 #[.int .i64 0, .int .i64 0, .int .i64 0, .int .i64 0, .int .i64 0, .int .i64 0, .string ⟨#[]⟩, .string ⟨#[]⟩, .string ⟨#[]⟩, .slice A2 0 c2] := Blk.new _ _ _
       have hrowa := Lib.hid (ownsRow_later hrow hA)
       clear hrow)
    | (go_at_call 23; refine (rGroup_any _ _ (by omega)).mono ?_; rintro e w' ⟨rfl, rfl⟩)
    | (go_at_call 25; refine (rright_any m A c _ (HL.out.below HBa) HS.out hz1 hz2 hz3).mono ?_; rintro e w3 ⟨rfl, hb⟩
       have HB3 : Below w.heap.size w w3 := bstep HBa hb
       have b33 := b3a.later hb
       have bX3 := bXa.later hb
       have hrow3 := Lib.hid (ownsRow_later hrowa.out hb)
       have HG1 : w.heap.size < w3.heap.size := b33.lt
       have HG2 : w2.heap.size < w3.heap.size := bX3.lt
       clear hc3
       have hc3 := b33.cell
       have hcX := bX3.cell)
    | (go_at_call 22; refine (small_any _ _).mono ?_; rintro e w' ⟨rfl, rfl⟩)
    | (go_at_call 24; refine (sameZ_any _ _ _).mono ?_; rintro e w9 ⟨rfl, hb⟩
       have HB9 : Below w.heap.size w w9 := bstep HB3 hb))
  go_ret
  exact ⟨rfl, HB9⟩


set_option maxRecDepth 100000 in
set_option maxHeartbeats 8000000 in
theorem la_k (m : Msg) (A : Option Addr) (c : Nat) (id : Int) (g : ByteArray) (now : Int) (w : World) (hl : Strs w A m.keys) (wi : (Lit.int .i64 id).wf = true) (wn : (Lit.int .i64 now).wf = true) (hG : greatM m = false) (hS : decide ((100 : Int) < (g.size : Int)) = false) (f0 : groupL (L g) = true) (f1 : rightM m = true) (k1 : (m.kind == 1) = false) (k3 : (m.kind == 3) = false) (n1 : (m.kind != 1) = true) (n3 : (m.kind != 3) = true) :
    Calls Try.prog 5 #[.agg #[.int .i64 m.kind, .int .i64 m.queue, .int .i64 m.due, .int .i64 m.retry, .int .i64 m.ref, .int .i64 m.born, .string m.topic, .string m.tag, .string m.body, .slice A m.keys.length c], .string g, .agg #[.int .i64 id, .int .i64 now]] w fun e w' => e = .returned (.bool true) ∧ Below w.heap.size w w' := by
  obtain ⟨hn, hs, -, hzb, hzt, hzg⟩ := great_low hG
  have HS := Lib.hid hs
  have hgz : g.size ≤ 100 := by simp at hS; omega
  have hz1 : m.topic.size ≤ 9223372036854775807 := by omega
  have hz2 : m.tag.size ≤ 9223372036854775807 := by omega
  have hz3 : m.body.size ≤ 9223372036854775806 := by omega
  clear hs
  have HM := Lib.hid (show mayM m = false by simp only [mayM, f1, k1, k3]; rfl)
  have HL := Lib.hid hl
  clear hl
  go_enter Try.func5, Try.ntmps5
  go_wp2_with (first
    | (go_at_call 9; refine (awake_any _).mono ?_; rintro e w' ⟨rfl, rfl⟩)
    | (go_at_call 20; refine (great_any m A c (w.heap.size + 2) _ (HL.out.below (by repeat (first | exact Below.refl _ _ | apply balloc | apply bdrew | apply bdrewN))) (blk_at (Blk.new _ _ _) (by simp))).mono ?_; rintro e w1 ⟨rfl, hb⟩
       have HB1 : Below w.heap.size w w1 := bstep (by repeat (first | exact Below.refl _ _ | apply balloc | apply bdrew | apply bdrewN)) hb
       have b3 : Blk w1 w.heap.size 39 #[.int .i64 m.kind, .int .i64 m.queue, .int .i64 m.due, .int .i64 m.retry, .int .i64 m.ref, .int .i64 m.born, .string m.topic, .string m.tag, .string m.body, .slice A m.keys.length c] := Blk.later (Blk.later (Blk.new w 39 #[.int .i64 m.kind, .int .i64 m.queue, .int .i64 m.due, .int .i64 m.retry, .int .i64 m.ref, .int .i64 m.born, .string m.topic, .string m.tag, .string m.body, .slice A m.keys.length c]) (by repeat (first | exact Below.refl _ _ | apply balloc | apply bdrew | apply bdrewN))) hb
       have hc3 := b3.cell))
  go_quiet (fail)
  go_wp2_with (first
    | (go_at_call 9; refine (awake_any _).mono ?_; rintro e w' ⟨rfl, rfl⟩)
    | (go_at_call 20; refine (great_any m A c (w.heap.size + 2) _ (HL.out.below (by repeat (first | exact Below.refl _ _ | apply balloc | apply bdrew | apply bdrewN))) (blk_at (Blk.new _ _ _) (by simp))).mono ?_; rintro e w1 ⟨rfl, hb⟩
       have HB1 : Below w.heap.size w w1 := bstep (by repeat (first | exact Below.refl _ _ | apply balloc | apply bdrew | apply bdrewN)) hb
       have b3 : Blk w1 w.heap.size 39 #[.int .i64 m.kind, .int .i64 m.queue, .int .i64 m.due, .int .i64 m.retry, .int .i64 m.ref, .int .i64 m.born, .string m.topic, .string m.tag, .string m.body, .slice A m.keys.length c] := Blk.later (Blk.later (Blk.new w 39 #[.int .i64 m.kind, .int .i64 m.queue, .int .i64 m.due, .int .i64 m.retry, .int .i64 m.ref, .int .i64 m.born, .string m.topic, .string m.tag, .string m.body, .slice A m.keys.length c]) (by repeat (first | exact Below.refl _ _ | apply balloc | apply bdrew | apply bdrewN))) hb
       have hc3 := b3.cell)
    | (go_at_call 21; refine (ag_m m A c id g now _ (HL.out.below HB1) hn HS.out (by omega) f0 HM.out).mono ?_; rintro e w2 ⟨A2, c2, rfl, hrow, hb⟩
       have HB2 : Below w.heap.size w w2 := bstep HB1 hb
       have b32 := b3.later hb
       have HG0 : w.heap.size < w2.heap.size := b32.lt
       clear hc3
       have hc3 := b32.cell
       have hA : Below w2.heap.size w2 (w2.alloc (.cells #[.int .i64 0, .int .i64 0, .int .i64 0, .int .i64 0, .int .i64 0, .int .i64 0, .string ⟨#[]⟩, .string ⟨#[]⟩, .string ⟨#[]⟩, .slice A2 0 c2] 39)) := balloc (Below.refl _ _)
       have HBa : Below w.heap.size w (w2.alloc (.cells #[.int .i64 0, .int .i64 0, .int .i64 0, .int .i64 0, .int .i64 0, .int .i64 0, .string ⟨#[]⟩, .string ⟨#[]⟩, .string ⟨#[]⟩, .slice A2 0 c2] 39)) := bstep HB2 hA
       have b3a := b32.later hA
       have bXa : Blk (w2.alloc (.cells #[.int .i64 0, .int .i64 0, .int .i64 0, .int .i64 0, .int .i64 0, .int .i64 0, .string ⟨#[]⟩, .string ⟨#[]⟩, .string ⟨#[]⟩, .slice A2 0 c2] 39)) w2.heap.size 39 #[.int .i64 0, .int .i64 0, .int .i64 0, .int .i64 0, .int .i64 0, .int .i64 0, .string ⟨#[]⟩, .string ⟨#[]⟩, .string ⟨#[]⟩, .slice A2 0 c2] := Blk.new _ _ _
       have hrowa := Lib.hid (ownsRow_later hrow hA)
       clear hrow)
    | (go_at_call 23; refine (rGroup_any _ _ (by omega)).mono ?_; rintro e w' ⟨rfl, rfl⟩)
    | (go_at_call 25; refine (rright_any m A c _ (HL.out.below HBa) HS.out hz1 hz2 hz3).mono ?_; rintro e w3 ⟨rfl, hb⟩
       have HB3 : Below w.heap.size w w3 := bstep HBa hb
       have b33 := b3a.later hb
       have bX3 := bXa.later hb
       have hrow3 := Lib.hid (ownsRow_later hrowa.out hb)
       have HG1 : w.heap.size < w3.heap.size := b33.lt
       have HG2 : w2.heap.size < w3.heap.size := bX3.lt
       clear hc3
       have hc3 := b33.cell
       have hcX := bX3.cell)
    | (go_at_call 22; refine (small_any _ _).mono ?_; rintro e w' ⟨rfl, rfl⟩)
    | (go_at_call 24; refine (sameZ_any _ _ _).mono ?_; rintro e w9 ⟨rfl, hb⟩
       have HB9 : Below w.heap.size w w9 := bstep HB3 hb))
  go_ret
  exact ⟨rfl, HB9⟩


set_option maxRecDepth 100000 in
set_option maxHeartbeats 8000000 in
theorem la_i1 (m : Msg) (A : Option Addr) (c : Nat) (id : Int) (g : ByteArray) (now : Int) (w : World) (hl : Strs w A m.keys) (wi : (Lit.int .i64 id).wf = true) (wn : (Lit.int .i64 now).wf = true) (hG : greatM m = false) (hS : decide ((100 : Int) < (g.size : Int)) = false) (f0 : groupL (L g) = true) (f1 : rightM m = true) (k1 : (m.kind == 1) = true) (k3 : (m.kind == 3) = false) (n1 : (m.kind != 1) = false) (n3 : (m.kind != 3) = true) (t0 : okT id = false) :
    Calls Try.prog 5 #[.agg #[.int .i64 m.kind, .int .i64 m.queue, .int .i64 m.due, .int .i64 m.retry, .int .i64 m.ref, .int .i64 m.born, .string m.topic, .string m.tag, .string m.body, .slice A m.keys.length c], .string g, .agg #[.int .i64 id, .int .i64 now]] w fun e w' => e = .returned (.bool true) ∧ Below w.heap.size w w' := by
  obtain ⟨hn, hs, -, hzb, hzt, hzg⟩ := great_low hG
  have HS := Lib.hid hs
  have hgz : g.size ≤ 100 := by simp at hS; omega
  have hz1 : m.topic.size ≤ 9223372036854775807 := by omega
  have hz2 : m.tag.size ≤ 9223372036854775807 := by omega
  have hz3 : m.body.size ≤ 9223372036854775806 := by omega
  clear hs
  have HM := Lib.hid (show mayM m = true by simp only [mayM, f1, k1, k3]; rfl)
  have HT := Lib.hid (show allI okT [id, now] = false by simp [allI, t0])
  have HL := Lib.hid hl
  clear hl
  go_enter Try.func5, Try.ntmps5
  go_wp2_with (first
    | (go_at_call 9; refine (awake_any _).mono ?_; rintro e w' ⟨rfl, rfl⟩)
    | (go_at_call 20; refine (great_any m A c (w.heap.size + 2) _ (HL.out.below (by repeat (first | exact Below.refl _ _ | apply balloc | apply bdrew | apply bdrewN))) (blk_at (Blk.new _ _ _) (by simp))).mono ?_; rintro e w1 ⟨rfl, hb⟩
       have HB1 : Below w.heap.size w w1 := bstep (by repeat (first | exact Below.refl _ _ | apply balloc | apply bdrew | apply bdrewN)) hb
       have b3 : Blk w1 w.heap.size 39 #[.int .i64 m.kind, .int .i64 m.queue, .int .i64 m.due, .int .i64 m.retry, .int .i64 m.ref, .int .i64 m.born, .string m.topic, .string m.tag, .string m.body, .slice A m.keys.length c] := Blk.later (Blk.later (Blk.new w 39 #[.int .i64 m.kind, .int .i64 m.queue, .int .i64 m.due, .int .i64 m.retry, .int .i64 m.ref, .int .i64 m.born, .string m.topic, .string m.tag, .string m.body, .slice A m.keys.length c]) (by repeat (first | exact Below.refl _ _ | apply balloc | apply bdrew | apply bdrewN))) hb
       have hc3 := b3.cell))
  go_quiet (fail)
  go_wp2_with (first
    | (go_at_call 9; refine (awake_any _).mono ?_; rintro e w' ⟨rfl, rfl⟩)
    | (go_at_call 20; refine (great_any m A c (w.heap.size + 2) _ (HL.out.below (by repeat (first | exact Below.refl _ _ | apply balloc | apply bdrew | apply bdrewN))) (blk_at (Blk.new _ _ _) (by simp))).mono ?_; rintro e w1 ⟨rfl, hb⟩
       have HB1 : Below w.heap.size w w1 := bstep (by repeat (first | exact Below.refl _ _ | apply balloc | apply bdrew | apply bdrewN)) hb
       have b3 : Blk w1 w.heap.size 39 #[.int .i64 m.kind, .int .i64 m.queue, .int .i64 m.due, .int .i64 m.retry, .int .i64 m.ref, .int .i64 m.born, .string m.topic, .string m.tag, .string m.body, .slice A m.keys.length c] := Blk.later (Blk.later (Blk.new w 39 #[.int .i64 m.kind, .int .i64 m.queue, .int .i64 m.due, .int .i64 m.retry, .int .i64 m.ref, .int .i64 m.born, .string m.topic, .string m.tag, .string m.body, .slice A m.keys.length c]) (by repeat (first | exact Below.refl _ _ | apply balloc | apply bdrew | apply bdrewN))) hb
       have hc3 := b3.cell)
    | (go_at_call 21; refine (ag_t m A c id g now _ (HL.out.below HB1) hn HS.out (by omega) f0 HM.out HT.out).mono ?_; rintro e w2 ⟨A2, c2, rfl, hrow, hb⟩
       have HB2 : Below w.heap.size w w2 := bstep HB1 hb
       have b32 := b3.later hb
       have HG0 : w.heap.size < w2.heap.size := b32.lt
       clear hc3
       have hc3 := b32.cell
       have hA : Below w2.heap.size w2 (w2.alloc (.cells #[.int .i64 0, .int .i64 0, .int .i64 0, .int .i64 0, .int .i64 0, .int .i64 0, .string ⟨#[]⟩, .string ⟨#[]⟩, .string ⟨#[]⟩, .slice A2 0 c2] 39)) := balloc (Below.refl _ _)
       have HBa : Below w.heap.size w (w2.alloc (.cells #[.int .i64 0, .int .i64 0, .int .i64 0, .int .i64 0, .int .i64 0, .int .i64 0, .string ⟨#[]⟩, .string ⟨#[]⟩, .string ⟨#[]⟩, .slice A2 0 c2] 39)) := bstep HB2 hA
       have b3a := b32.later hA
       have bXa : Blk (w2.alloc (.cells #[.int .i64 0, .int .i64 0, .int .i64 0, .int .i64 0, .int .i64 0, .int .i64 0, .string ⟨#[]⟩, .string ⟨#[]⟩, .string ⟨#[]⟩, .slice A2 0 c2] 39)) w2.heap.size 39 #[.int .i64 0, .int .i64 0, .int .i64 0, .int .i64 0, .int .i64 0, .int .i64 0, .string ⟨#[]⟩, .string ⟨#[]⟩, .string ⟨#[]⟩, .slice A2 0 c2] := Blk.new _ _ _
       have hrowa := Lib.hid (ownsRow_later hrow hA)
       clear hrow)
    | (go_at_call 23; refine (rGroup_any _ _ (by omega)).mono ?_; rintro e w' ⟨rfl, rfl⟩)
    | (go_at_call 25; refine (rright_any m A c _ (HL.out.below HBa) HS.out hz1 hz2 hz3).mono ?_; rintro e w3 ⟨rfl, hb⟩
       have HB3 : Below w.heap.size w w3 := bstep HBa hb
       have b33 := b3a.later hb
       have bX3 := bXa.later hb
       have hrow3 := Lib.hid (ownsRow_later hrowa.out hb)
       have HG1 : w.heap.size < w3.heap.size := b33.lt
       have HG2 : w2.heap.size < w3.heap.size := bX3.lt
       clear hc3
       have hc3 := b33.cell
       have hcX := bX3.cell)
    | (go_at_call 22; refine (small_any _ _).mono ?_; rintro e w' ⟨rfl, rfl⟩)
    | (go_at_call 24; refine (sameZ_any _ _ _).mono ?_; rintro e w9 ⟨rfl, hb⟩
       have HB9 : Below w.heap.size w w9 := bstep HB3 hb))
  go_ret
  exact ⟨rfl, HB9⟩


set_option maxRecDepth 100000 in
set_option maxHeartbeats 8000000 in
theorem la_n1 (m : Msg) (A : Option Addr) (c : Nat) (id : Int) (g : ByteArray) (now : Int) (w : World) (hl : Strs w A m.keys) (wi : (Lit.int .i64 id).wf = true) (wn : (Lit.int .i64 now).wf = true) (hG : greatM m = false) (hS : decide ((100 : Int) < (g.size : Int)) = false) (f0 : groupL (L g) = true) (f1 : rightM m = true) (k1 : (m.kind == 1) = true) (k3 : (m.kind == 3) = false) (n1 : (m.kind != 1) = false) (n3 : (m.kind != 3) = true) (t0 : okT id = true) (t1 : okT now = false) :
    Calls Try.prog 5 #[.agg #[.int .i64 m.kind, .int .i64 m.queue, .int .i64 m.due, .int .i64 m.retry, .int .i64 m.ref, .int .i64 m.born, .string m.topic, .string m.tag, .string m.body, .slice A m.keys.length c], .string g, .agg #[.int .i64 id, .int .i64 now]] w fun e w' => e = .returned (.bool true) ∧ Below w.heap.size w w' := by
  obtain ⟨hn, hs, -, hzb, hzt, hzg⟩ := great_low hG
  have HS := Lib.hid hs
  have hgz : g.size ≤ 100 := by simp at hS; omega
  have hz1 : m.topic.size ≤ 9223372036854775807 := by omega
  have hz2 : m.tag.size ≤ 9223372036854775807 := by omega
  have hz3 : m.body.size ≤ 9223372036854775806 := by omega
  clear hs
  have HM := Lib.hid (show mayM m = true by simp only [mayM, f1, k1, k3]; rfl)
  have HT := Lib.hid (show allI okT [id, now] = false by simp [allI, t0, t1])
  have HL := Lib.hid hl
  clear hl
  go_enter Try.func5, Try.ntmps5
  go_wp2_with (first
    | (go_at_call 9; refine (awake_any _).mono ?_; rintro e w' ⟨rfl, rfl⟩)
    | (go_at_call 20; refine (great_any m A c (w.heap.size + 2) _ (HL.out.below (by repeat (first | exact Below.refl _ _ | apply balloc | apply bdrew | apply bdrewN))) (blk_at (Blk.new _ _ _) (by simp))).mono ?_; rintro e w1 ⟨rfl, hb⟩
       have HB1 : Below w.heap.size w w1 := bstep (by repeat (first | exact Below.refl _ _ | apply balloc | apply bdrew | apply bdrewN)) hb
       have b3 : Blk w1 w.heap.size 39 #[.int .i64 m.kind, .int .i64 m.queue, .int .i64 m.due, .int .i64 m.retry, .int .i64 m.ref, .int .i64 m.born, .string m.topic, .string m.tag, .string m.body, .slice A m.keys.length c] := Blk.later (Blk.later (Blk.new w 39 #[.int .i64 m.kind, .int .i64 m.queue, .int .i64 m.due, .int .i64 m.retry, .int .i64 m.ref, .int .i64 m.born, .string m.topic, .string m.tag, .string m.body, .slice A m.keys.length c]) (by repeat (first | exact Below.refl _ _ | apply balloc | apply bdrew | apply bdrewN))) hb
       have hc3 := b3.cell))
  go_quiet (fail)
  go_wp2_with (first
    | (go_at_call 9; refine (awake_any _).mono ?_; rintro e w' ⟨rfl, rfl⟩)
    | (go_at_call 20; refine (great_any m A c (w.heap.size + 2) _ (HL.out.below (by repeat (first | exact Below.refl _ _ | apply balloc | apply bdrew | apply bdrewN))) (blk_at (Blk.new _ _ _) (by simp))).mono ?_; rintro e w1 ⟨rfl, hb⟩
       have HB1 : Below w.heap.size w w1 := bstep (by repeat (first | exact Below.refl _ _ | apply balloc | apply bdrew | apply bdrewN)) hb
       have b3 : Blk w1 w.heap.size 39 #[.int .i64 m.kind, .int .i64 m.queue, .int .i64 m.due, .int .i64 m.retry, .int .i64 m.ref, .int .i64 m.born, .string m.topic, .string m.tag, .string m.body, .slice A m.keys.length c] := Blk.later (Blk.later (Blk.new w 39 #[.int .i64 m.kind, .int .i64 m.queue, .int .i64 m.due, .int .i64 m.retry, .int .i64 m.ref, .int .i64 m.born, .string m.topic, .string m.tag, .string m.body, .slice A m.keys.length c]) (by repeat (first | exact Below.refl _ _ | apply balloc | apply bdrew | apply bdrewN))) hb
       have hc3 := b3.cell)
    | (go_at_call 21; refine (ag_t m A c id g now _ (HL.out.below HB1) hn HS.out (by omega) f0 HM.out HT.out).mono ?_; rintro e w2 ⟨A2, c2, rfl, hrow, hb⟩
       have HB2 : Below w.heap.size w w2 := bstep HB1 hb
       have b32 := b3.later hb
       have HG0 : w.heap.size < w2.heap.size := b32.lt
       clear hc3
       have hc3 := b32.cell
       have hA : Below w2.heap.size w2 (w2.alloc (.cells #[.int .i64 0, .int .i64 0, .int .i64 0, .int .i64 0, .int .i64 0, .int .i64 0, .string ⟨#[]⟩, .string ⟨#[]⟩, .string ⟨#[]⟩, .slice A2 0 c2] 39)) := balloc (Below.refl _ _)
       have HBa : Below w.heap.size w (w2.alloc (.cells #[.int .i64 0, .int .i64 0, .int .i64 0, .int .i64 0, .int .i64 0, .int .i64 0, .string ⟨#[]⟩, .string ⟨#[]⟩, .string ⟨#[]⟩, .slice A2 0 c2] 39)) := bstep HB2 hA
       have b3a := b32.later hA
       have bXa : Blk (w2.alloc (.cells #[.int .i64 0, .int .i64 0, .int .i64 0, .int .i64 0, .int .i64 0, .int .i64 0, .string ⟨#[]⟩, .string ⟨#[]⟩, .string ⟨#[]⟩, .slice A2 0 c2] 39)) w2.heap.size 39 #[.int .i64 0, .int .i64 0, .int .i64 0, .int .i64 0, .int .i64 0, .int .i64 0, .string ⟨#[]⟩, .string ⟨#[]⟩, .string ⟨#[]⟩, .slice A2 0 c2] := Blk.new _ _ _
       have hrowa := Lib.hid (ownsRow_later hrow hA)
       clear hrow)
    | (go_at_call 23; refine (rGroup_any _ _ (by omega)).mono ?_; rintro e w' ⟨rfl, rfl⟩)
    | (go_at_call 25; refine (rright_any m A c _ (HL.out.below HBa) HS.out hz1 hz2 hz3).mono ?_; rintro e w3 ⟨rfl, hb⟩
       have HB3 : Below w.heap.size w w3 := bstep HBa hb
       have b33 := b3a.later hb
       have bX3 := bXa.later hb
       have hrow3 := Lib.hid (ownsRow_later hrowa.out hb)
       have HG1 : w.heap.size < w3.heap.size := b33.lt
       have HG2 : w2.heap.size < w3.heap.size := bX3.lt
       clear hc3
       have hc3 := b33.cell
       have hcX := bX3.cell)
    | (go_at_call 22; refine (small_any _ _).mono ?_; rintro e w' ⟨rfl, rfl⟩)
    | (go_at_call 24; refine (sameZ_any _ _ _).mono ?_; rintro e w9 ⟨rfl, hb⟩
       have HB9 : Below w.heap.size w w9 := bstep HB3 hb))
  go_ret
  exact ⟨rfl, HB9⟩


set_option maxRecDepth 100000 in
set_option maxHeartbeats 8000000 in
theorem la_i3 (m : Msg) (A : Option Addr) (c : Nat) (id : Int) (g : ByteArray) (now : Int) (w : World) (hl : Strs w A m.keys) (wi : (Lit.int .i64 id).wf = true) (wn : (Lit.int .i64 now).wf = true) (hG : greatM m = false) (hS : decide ((100 : Int) < (g.size : Int)) = false) (f0 : groupL (L g) = true) (f1 : rightM m = true) (k1 : (m.kind == 1) = false) (k3 : (m.kind == 3) = true) (n1 : (m.kind != 1) = true) (n3 : (m.kind != 3) = false) (t0 : okT id = false) :
    Calls Try.prog 5 #[.agg #[.int .i64 m.kind, .int .i64 m.queue, .int .i64 m.due, .int .i64 m.retry, .int .i64 m.ref, .int .i64 m.born, .string m.topic, .string m.tag, .string m.body, .slice A m.keys.length c], .string g, .agg #[.int .i64 id, .int .i64 now]] w fun e w' => e = .returned (.bool true) ∧ Below w.heap.size w w' := by
  obtain ⟨hn, hs, -, hzb, hzt, hzg⟩ := great_low hG
  have HS := Lib.hid hs
  have hgz : g.size ≤ 100 := by simp at hS; omega
  have hz1 : m.topic.size ≤ 9223372036854775807 := by omega
  have hz2 : m.tag.size ≤ 9223372036854775807 := by omega
  have hz3 : m.body.size ≤ 9223372036854775806 := by omega
  clear hs
  have HM := Lib.hid (show mayM m = true by simp only [mayM, f1, k1, k3]; rfl)
  have HT := Lib.hid (show allI okT [id, now] = false by simp [allI, t0])
  have HL := Lib.hid hl
  clear hl
  go_enter Try.func5, Try.ntmps5
  go_wp2_with (first
    | (go_at_call 9; refine (awake_any _).mono ?_; rintro e w' ⟨rfl, rfl⟩)
    | (go_at_call 20; refine (great_any m A c (w.heap.size + 2) _ (HL.out.below (by repeat (first | exact Below.refl _ _ | apply balloc | apply bdrew | apply bdrewN))) (blk_at (Blk.new _ _ _) (by simp))).mono ?_; rintro e w1 ⟨rfl, hb⟩
       have HB1 : Below w.heap.size w w1 := bstep (by repeat (first | exact Below.refl _ _ | apply balloc | apply bdrew | apply bdrewN)) hb
       have b3 : Blk w1 w.heap.size 39 #[.int .i64 m.kind, .int .i64 m.queue, .int .i64 m.due, .int .i64 m.retry, .int .i64 m.ref, .int .i64 m.born, .string m.topic, .string m.tag, .string m.body, .slice A m.keys.length c] := Blk.later (Blk.later (Blk.new w 39 #[.int .i64 m.kind, .int .i64 m.queue, .int .i64 m.due, .int .i64 m.retry, .int .i64 m.ref, .int .i64 m.born, .string m.topic, .string m.tag, .string m.body, .slice A m.keys.length c]) (by repeat (first | exact Below.refl _ _ | apply balloc | apply bdrew | apply bdrewN))) hb
       have hc3 := b3.cell))
  go_quiet (fail)
  go_wp2_with (first
    | (go_at_call 9; refine (awake_any _).mono ?_; rintro e w' ⟨rfl, rfl⟩)
    | (go_at_call 20; refine (great_any m A c (w.heap.size + 2) _ (HL.out.below (by repeat (first | exact Below.refl _ _ | apply balloc | apply bdrew | apply bdrewN))) (blk_at (Blk.new _ _ _) (by simp))).mono ?_; rintro e w1 ⟨rfl, hb⟩
       have HB1 : Below w.heap.size w w1 := bstep (by repeat (first | exact Below.refl _ _ | apply balloc | apply bdrew | apply bdrewN)) hb
       have b3 : Blk w1 w.heap.size 39 #[.int .i64 m.kind, .int .i64 m.queue, .int .i64 m.due, .int .i64 m.retry, .int .i64 m.ref, .int .i64 m.born, .string m.topic, .string m.tag, .string m.body, .slice A m.keys.length c] := Blk.later (Blk.later (Blk.new w 39 #[.int .i64 m.kind, .int .i64 m.queue, .int .i64 m.due, .int .i64 m.retry, .int .i64 m.ref, .int .i64 m.born, .string m.topic, .string m.tag, .string m.body, .slice A m.keys.length c]) (by repeat (first | exact Below.refl _ _ | apply balloc | apply bdrew | apply bdrewN))) hb
       have hc3 := b3.cell)
    | (go_at_call 21; refine (ag_t m A c id g now _ (HL.out.below HB1) hn HS.out (by omega) f0 HM.out HT.out).mono ?_; rintro e w2 ⟨A2, c2, rfl, hrow, hb⟩
       have HB2 : Below w.heap.size w w2 := bstep HB1 hb
       have b32 := b3.later hb
       have HG0 : w.heap.size < w2.heap.size := b32.lt
       clear hc3
       have hc3 := b32.cell
       have hA : Below w2.heap.size w2 (w2.alloc (.cells #[.int .i64 0, .int .i64 0, .int .i64 0, .int .i64 0, .int .i64 0, .int .i64 0, .string ⟨#[]⟩, .string ⟨#[]⟩, .string ⟨#[]⟩, .slice A2 0 c2] 39)) := balloc (Below.refl _ _)
       have HBa : Below w.heap.size w (w2.alloc (.cells #[.int .i64 0, .int .i64 0, .int .i64 0, .int .i64 0, .int .i64 0, .int .i64 0, .string ⟨#[]⟩, .string ⟨#[]⟩, .string ⟨#[]⟩, .slice A2 0 c2] 39)) := bstep HB2 hA
       have b3a := b32.later hA
       have bXa : Blk (w2.alloc (.cells #[.int .i64 0, .int .i64 0, .int .i64 0, .int .i64 0, .int .i64 0, .int .i64 0, .string ⟨#[]⟩, .string ⟨#[]⟩, .string ⟨#[]⟩, .slice A2 0 c2] 39)) w2.heap.size 39 #[.int .i64 0, .int .i64 0, .int .i64 0, .int .i64 0, .int .i64 0, .int .i64 0, .string ⟨#[]⟩, .string ⟨#[]⟩, .string ⟨#[]⟩, .slice A2 0 c2] := Blk.new _ _ _
       have hrowa := Lib.hid (ownsRow_later hrow hA)
       clear hrow)
    | (go_at_call 23; refine (rGroup_any _ _ (by omega)).mono ?_; rintro e w' ⟨rfl, rfl⟩)
    | (go_at_call 25; refine (rright_any m A c _ (HL.out.below HBa) HS.out hz1 hz2 hz3).mono ?_; rintro e w3 ⟨rfl, hb⟩
       have HB3 : Below w.heap.size w w3 := bstep HBa hb
       have b33 := b3a.later hb
       have bX3 := bXa.later hb
       have hrow3 := Lib.hid (ownsRow_later hrowa.out hb)
       have HG1 : w.heap.size < w3.heap.size := b33.lt
       have HG2 : w2.heap.size < w3.heap.size := bX3.lt
       clear hc3
       have hc3 := b33.cell
       have hcX := bX3.cell)
    | (go_at_call 22; refine (small_any _ _).mono ?_; rintro e w' ⟨rfl, rfl⟩)
    | (go_at_call 24; refine (sameZ_any _ _ _).mono ?_; rintro e w9 ⟨rfl, hb⟩
       have HB9 : Below w.heap.size w w9 := bstep HB3 hb))
  go_ret
  exact ⟨rfl, HB9⟩


set_option maxRecDepth 100000 in
set_option maxHeartbeats 8000000 in
theorem la_n3 (m : Msg) (A : Option Addr) (c : Nat) (id : Int) (g : ByteArray) (now : Int) (w : World) (hl : Strs w A m.keys) (wi : (Lit.int .i64 id).wf = true) (wn : (Lit.int .i64 now).wf = true) (hG : greatM m = false) (hS : decide ((100 : Int) < (g.size : Int)) = false) (f0 : groupL (L g) = true) (f1 : rightM m = true) (k1 : (m.kind == 1) = false) (k3 : (m.kind == 3) = true) (n1 : (m.kind != 1) = true) (n3 : (m.kind != 3) = false) (t0 : okT id = true) (t1 : okT now = false) :
    Calls Try.prog 5 #[.agg #[.int .i64 m.kind, .int .i64 m.queue, .int .i64 m.due, .int .i64 m.retry, .int .i64 m.ref, .int .i64 m.born, .string m.topic, .string m.tag, .string m.body, .slice A m.keys.length c], .string g, .agg #[.int .i64 id, .int .i64 now]] w fun e w' => e = .returned (.bool true) ∧ Below w.heap.size w w' := by
  obtain ⟨hn, hs, -, hzb, hzt, hzg⟩ := great_low hG
  have HS := Lib.hid hs
  have hgz : g.size ≤ 100 := by simp at hS; omega
  have hz1 : m.topic.size ≤ 9223372036854775807 := by omega
  have hz2 : m.tag.size ≤ 9223372036854775807 := by omega
  have hz3 : m.body.size ≤ 9223372036854775806 := by omega
  clear hs
  have HM := Lib.hid (show mayM m = true by simp only [mayM, f1, k1, k3]; rfl)
  have HT := Lib.hid (show allI okT [id, now] = false by simp [allI, t0, t1])
  have HL := Lib.hid hl
  clear hl
  go_enter Try.func5, Try.ntmps5
  go_wp2_with (first
    | (go_at_call 9; refine (awake_any _).mono ?_; rintro e w' ⟨rfl, rfl⟩)
    | (go_at_call 20; refine (great_any m A c (w.heap.size + 2) _ (HL.out.below (by repeat (first | exact Below.refl _ _ | apply balloc | apply bdrew | apply bdrewN))) (blk_at (Blk.new _ _ _) (by simp))).mono ?_; rintro e w1 ⟨rfl, hb⟩
       have HB1 : Below w.heap.size w w1 := bstep (by repeat (first | exact Below.refl _ _ | apply balloc | apply bdrew | apply bdrewN)) hb
       have b3 : Blk w1 w.heap.size 39 #[.int .i64 m.kind, .int .i64 m.queue, .int .i64 m.due, .int .i64 m.retry, .int .i64 m.ref, .int .i64 m.born, .string m.topic, .string m.tag, .string m.body, .slice A m.keys.length c] := Blk.later (Blk.later (Blk.new w 39 #[.int .i64 m.kind, .int .i64 m.queue, .int .i64 m.due, .int .i64 m.retry, .int .i64 m.ref, .int .i64 m.born, .string m.topic, .string m.tag, .string m.body, .slice A m.keys.length c]) (by repeat (first | exact Below.refl _ _ | apply balloc | apply bdrew | apply bdrewN))) hb
       have hc3 := b3.cell))
  go_quiet (fail)
  go_wp2_with (first
    | (go_at_call 9; refine (awake_any _).mono ?_; rintro e w' ⟨rfl, rfl⟩)
    | (go_at_call 20; refine (great_any m A c (w.heap.size + 2) _ (HL.out.below (by repeat (first | exact Below.refl _ _ | apply balloc | apply bdrew | apply bdrewN))) (blk_at (Blk.new _ _ _) (by simp))).mono ?_; rintro e w1 ⟨rfl, hb⟩
       have HB1 : Below w.heap.size w w1 := bstep (by repeat (first | exact Below.refl _ _ | apply balloc | apply bdrew | apply bdrewN)) hb
       have b3 : Blk w1 w.heap.size 39 #[.int .i64 m.kind, .int .i64 m.queue, .int .i64 m.due, .int .i64 m.retry, .int .i64 m.ref, .int .i64 m.born, .string m.topic, .string m.tag, .string m.body, .slice A m.keys.length c] := Blk.later (Blk.later (Blk.new w 39 #[.int .i64 m.kind, .int .i64 m.queue, .int .i64 m.due, .int .i64 m.retry, .int .i64 m.ref, .int .i64 m.born, .string m.topic, .string m.tag, .string m.body, .slice A m.keys.length c]) (by repeat (first | exact Below.refl _ _ | apply balloc | apply bdrew | apply bdrewN))) hb
       have hc3 := b3.cell)
    | (go_at_call 21; refine (ag_t m A c id g now _ (HL.out.below HB1) hn HS.out (by omega) f0 HM.out HT.out).mono ?_; rintro e w2 ⟨A2, c2, rfl, hrow, hb⟩
       have HB2 : Below w.heap.size w w2 := bstep HB1 hb
       have b32 := b3.later hb
       have HG0 : w.heap.size < w2.heap.size := b32.lt
       clear hc3
       have hc3 := b32.cell
       have hA : Below w2.heap.size w2 (w2.alloc (.cells #[.int .i64 0, .int .i64 0, .int .i64 0, .int .i64 0, .int .i64 0, .int .i64 0, .string ⟨#[]⟩, .string ⟨#[]⟩, .string ⟨#[]⟩, .slice A2 0 c2] 39)) := balloc (Below.refl _ _)
       have HBa : Below w.heap.size w (w2.alloc (.cells #[.int .i64 0, .int .i64 0, .int .i64 0, .int .i64 0, .int .i64 0, .int .i64 0, .string ⟨#[]⟩, .string ⟨#[]⟩, .string ⟨#[]⟩, .slice A2 0 c2] 39)) := bstep HB2 hA
       have b3a := b32.later hA
       have bXa : Blk (w2.alloc (.cells #[.int .i64 0, .int .i64 0, .int .i64 0, .int .i64 0, .int .i64 0, .int .i64 0, .string ⟨#[]⟩, .string ⟨#[]⟩, .string ⟨#[]⟩, .slice A2 0 c2] 39)) w2.heap.size 39 #[.int .i64 0, .int .i64 0, .int .i64 0, .int .i64 0, .int .i64 0, .int .i64 0, .string ⟨#[]⟩, .string ⟨#[]⟩, .string ⟨#[]⟩, .slice A2 0 c2] := Blk.new _ _ _
       have hrowa := Lib.hid (ownsRow_later hrow hA)
       clear hrow)
    | (go_at_call 23; refine (rGroup_any _ _ (by omega)).mono ?_; rintro e w' ⟨rfl, rfl⟩)
    | (go_at_call 25; refine (rright_any m A c _ (HL.out.below HBa) HS.out hz1 hz2 hz3).mono ?_; rintro e w3 ⟨rfl, hb⟩
       have HB3 : Below w.heap.size w w3 := bstep HBa hb
       have b33 := b3a.later hb
       have bX3 := bXa.later hb
       have hrow3 := Lib.hid (ownsRow_later hrowa.out hb)
       have HG1 : w.heap.size < w3.heap.size := b33.lt
       have HG2 : w2.heap.size < w3.heap.size := bX3.lt
       clear hc3
       have hc3 := b33.cell
       have hcX := bX3.cell)
    | (go_at_call 22; refine (small_any _ _).mono ?_; rintro e w' ⟨rfl, rfl⟩)
    | (go_at_call 24; refine (sameZ_any _ _ _).mono ?_; rintro e w9 ⟨rfl, hb⟩
       have HB9 : Below w.heap.size w w9 := bstep HB3 hb))
  go_ret
  exact ⟨rfl, HB9⟩

end Go.Proofs.Ytnlpohcnlmdocaa
