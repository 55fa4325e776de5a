/- The walk of LevelChain. -/
import Derived.Test.YtnlpohcnlmdocaaChain
namespace Go.Proofs.Ytnlpohcnlmdocaa
open Go.RowKit Go.Shelf
set_option linter.unusedSimpArgs false
set_option linter.unusedVariables false


set_option maxHeartbeats 8000000 in
theorem chain_0 (m : Msg) (A : Option Addr) (c : Nat) (g : ByteArray) (now : Int) (w : World) (hl : Strs w A m.keys) (hG : (greatM m) = true) :
    Calls Try.prog 6 #[.agg #[.int .i64 m.kind, .int .i64 m.queue, .int .i64 m.due, .int .i64 m.retry, .int .i64 m.ref, .int .i64 m.born, .string m.topic, .string m.tag, .string m.body, .slice A m.keys.length c], .string g, .int .u32 now] w fun e w' => e = .returned (.bool true) ∧ Below w.heap.size w w' := by
  have HL := Lib.hid hl
  clear hl
  go_enter Try.func6, Try.ntmps6
  go_wp2_with (first
    | (go_at_call 9; refine (awake_any _).mono ?_; rintro e w' ⟨rfl, rfl⟩)
    | (go_at_call 20; refine (great_any m A c (w.heap.size + 1) _ (HL.out.below (by repeat (first | exact Below.refl _ _ | apply balloc))) (heap_alloc2_new w _ _)).mono ?_; rintro e w1 ⟨rfl, hb⟩
       have HB1 : Below w.heap.size w w1 := bstep (by repeat (first | exact Below.refl _ _ | apply balloc)) hb
       have b3 : Blk w1 w.heap.size 39 #[.int .i64 m.kind, .int .i64 m.queue, .int .i64 m.due, .int .i64 m.retry, .int .i64 m.ref, .int .i64 m.born, .string m.topic, .string m.tag, .string m.body, .slice A m.keys.length c] := Blk.later (heap_alloc2_old w _ _) hb
       have hc3 := b3.cell))
  go_ret
  exact ⟨rfl, HB1⟩


set_option maxHeartbeats 8000000 in
theorem chain_1 (m : Msg) (A : Option Addr) (c : Nat) (g : ByteArray) (now : Int) (w : World) (hl : Strs w A m.keys) (hG : (greatM m) = false) (hS : (decide ((100 : Int) < (g.size : Int))) = true) :
    Calls Try.prog 6 #[.agg #[.int .i64 m.kind, .int .i64 m.queue, .int .i64 m.due, .int .i64 m.retry, .int .i64 m.ref, .int .i64 m.born, .string m.topic, .string m.tag, .string m.body, .slice A m.keys.length c], .string g, .int .u32 now] w fun e w' => e = .returned (.bool true) ∧ Below w.heap.size w w' := by
  have HL := Lib.hid hl
  clear hl
  go_enter Try.func6, Try.ntmps6
  go_wp2_with (first
    | (go_at_call 9; refine (awake_any _).mono ?_; rintro e w' ⟨rfl, rfl⟩)
    | (go_at_call 20; refine (great_any m A c (w.heap.size + 1) _ (HL.out.below (by repeat (first | exact Below.refl _ _ | apply balloc))) (heap_alloc2_new w _ _)).mono ?_; rintro e w1 ⟨rfl, hb⟩
       have HB1 : Below w.heap.size w w1 := bstep (by repeat (first | exact Below.refl _ _ | apply balloc)) hb
       have b3 : Blk w1 w.heap.size 39 #[.int .i64 m.kind, .int .i64 m.queue, .int .i64 m.due, .int .i64 m.retry, .int .i64 m.ref, .int .i64 m.born, .string m.topic, .string m.tag, .string m.body, .slice A m.keys.length c] := Blk.later (heap_alloc2_old w _ _) hb
       have hc3 := b3.cell))
  go_ret
  exact ⟨rfl, HB1⟩


set_option maxHeartbeats 8000000 in
theorem chain_2 (m : Msg) (A : Option Addr) (c : Nat) (g : ByteArray) (now : Int) (w : World) (hl : Strs w A m.keys) (hG : (greatM m) = false) (hS : (decide ((100 : Int) < (g.size : Int))) = false) (hK : (m.kind != 1) = true) :
    Calls Try.prog 6 #[.agg #[.int .i64 m.kind, .int .i64 m.queue, .int .i64 m.due, .int .i64 m.retry, .int .i64 m.ref, .int .i64 m.born, .string m.topic, .string m.tag, .string m.body, .slice A m.keys.length c], .string g, .int .u32 now] w fun e w' => e = .returned (.bool true) ∧ Below w.heap.size w w' := by
  have HL := Lib.hid hl
  clear hl
  go_enter Try.func6, Try.ntmps6
  go_wp2_with (first
    | (go_at_call 9; refine (awake_any _).mono ?_; rintro e w' ⟨rfl, rfl⟩)
    | (go_at_call 20; refine (great_any m A c (w.heap.size + 1) _ (HL.out.below (by repeat (first | exact Below.refl _ _ | apply balloc))) (heap_alloc2_new w _ _)).mono ?_; rintro e w1 ⟨rfl, hb⟩
       have HB1 : Below w.heap.size w w1 := bstep (by repeat (first | exact Below.refl _ _ | apply balloc)) hb
       have b3 : Blk w1 w.heap.size 39 #[.int .i64 m.kind, .int .i64 m.queue, .int .i64 m.due, .int .i64 m.retry, .int .i64 m.ref, .int .i64 m.born, .string m.topic, .string m.tag, .string m.body, .slice A m.keys.length c] := Blk.later (heap_alloc2_old w _ _) hb
       have hc3 := b3.cell))
  go_ret
  exact ⟨rfl, HB1⟩


set_option maxHeartbeats 8000000 in
theorem chain_3 (m : Msg) (A : Option Addr) (c : Nat) (g : ByteArray) (now : Int) (w : World) (hl : Strs w A m.keys) (hG : (greatM m) = false) (hS : (decide ((100 : Int) < (g.size : Int))) = false) (hK : (m.kind != 1) = false) (hR : (m.retry != 0) = true) :
    Calls Try.prog 6 #[.agg #[.int .i64 m.kind, .int .i64 m.queue, .int .i64 m.due, .int .i64 m.retry, .int .i64 m.ref, .int .i64 m.born, .string m.topic, .string m.tag, .string m.body, .slice A m.keys.length c], .string g, .int .u32 now] w fun e w' => e = .returned (.bool true) ∧ Below w.heap.size w w' := by
  have HL := Lib.hid hl
  clear hl
  go_enter Try.func6, Try.ntmps6
  go_wp2_with (first
    | (go_at_call 9; refine (awake_any _).mono ?_; rintro e w' ⟨rfl, rfl⟩)
    | (go_at_call 20; refine (great_any m A c (w.heap.size + 1) _ (HL.out.below (by repeat (first | exact Below.refl _ _ | apply balloc))) (heap_alloc2_new w _ _)).mono ?_; rintro e w1 ⟨rfl, hb⟩
       have HB1 : Below w.heap.size w w1 := bstep (by repeat (first | exact Below.refl _ _ | apply balloc)) hb
       have b3 : Blk w1 w.heap.size 39 #[.int .i64 m.kind, .int .i64 m.queue, .int .i64 m.due, .int .i64 m.retry, .int .i64 m.ref, .int .i64 m.born, .string m.topic, .string m.tag, .string m.body, .slice A m.keys.length c] := Blk.later (heap_alloc2_old w _ _) hb
       have hc3 := b3.cell))
  go_ret
  exact ⟨rfl, HB1⟩


def St (w : World) (X : Nat) (m : Msg) (A : Option Addr) (c : Nat) (cs : Option Addr → Nat → Array Value) (wr : World) : Prop :=
  Below w.heap.size w wr ∧ Blk wr w.heap.size 39 #[.int .i64 m.kind, .int .i64 m.queue, .int .i64 m.due, .int .i64 m.retry, .int .i64 m.ref, .int .i64 m.born, .string m.topic, .string m.tag, .string m.body, .slice A m.keys.length c] ∧ ∃ A' c', Strs wr A' m.keys ∧ Blk wr X 39 (cs A' c')
theorem great_small {m : Msg} (h : greatM m = false) : m.keys.length * 16 ≤ 140737488355328 ∧ (∀ s ∈ m.keys, s.size ≤ 9223372036854775807) ∧ m.keys.length ≤ 10 ∧ m.body.size ≤ 2000 ∧ m.topic.size ≤ 100 ∧ m.tag.size ≤ 100 := by
  simp only [greatM, bigK, Bool.or_eq_false_iff, decide_eq_false_iff_not, List.any_eq_false] at h
  obtain ⟨h1, h2, h3, h4, h5⟩ := h
  refine ⟨by omega, fun s hs => ?_, by omega, by omega, by omega, by omega⟩
  have := h5 s hs
  simp at this; omega


set_option maxRecDepth 100000 in
set_option maxHeartbeats 16000000 in
theorem chain_b (m : Msg) (A : Option Addr) (c : Nat) (g : ByteArray) (now : Int) (w : World) (hl : Strs w A m.keys) (hG : (greatM m) = false) (hS : (decide ((100 : Int) < (g.size : Int))) = false) (hK : (m.kind != 1) = false) (hR : (m.retry != 0) = false) (h0 : 0 ≤ now) (h1 : now ≤ 4294967295) (hB : okM m g = false ∨ mayM m = false) :
    Calls Try.prog 6 #[.agg #[.int .i64 m.kind, .int .i64 m.queue, .int .i64 m.due, .int .i64 m.retry, .int .i64 m.ref, .int .i64 m.born, .string m.topic, .string m.tag, .string m.body, .slice A m.keys.length c], .string g, .int .u32 now] w fun e w' => e = .returned (.bool true) ∧ Below w.heap.size w w' := by
  have HL := Lib.hid hl
  clear hl
  obtain ⟨hn, hs, -, -, -, -⟩ := great_small hG
  have HS := Lib.hid hs
  have hgz : g.size ≤ 100 := by simp at hS; omega
  have hk : m.kind = 1 := by simpa using hK
  have hr : m.retry = 0 := by simpa using hR
  have HK := Lib.hid hk
  have HR := Lib.hid hr
  clear hs hk hr
  go_enter Try.func6, Try.ntmps6
  go_wp2_with (first
    | (go_at_call 9; refine (awake_any _).mono ?_; rintro e w' ⟨rfl, rfl⟩)
    | (go_at_call 20; refine (great_any m A c (w.heap.size + 1) _ (HL.out.below (by repeat (first | exact Below.refl _ _ | apply balloc))) (heap_alloc2_new w _ _)).mono ?_; rintro e w1 ⟨rfl, hb⟩
       have HB1 : Below w.heap.size w w1 := bstep (by repeat (first | exact Below.refl _ _ | apply balloc)) hb
       have b3 : Blk w1 w.heap.size 39 #[.int .i64 m.kind, .int .i64 m.queue, .int .i64 m.due, .int .i64 m.retry, .int .i64 m.ref, .int .i64 m.born, .string m.topic, .string m.tag, .string m.body, .slice A m.keys.length c] := Blk.later (heap_alloc2_old w _ _) hb
       have hc3 := b3.cell))
  have hX := (heap_alloc_new w1 (.cells #[.int .i64 m.kind, .int .i64 m.queue, .int .i64 m.due, .int .i64 m.retry, .int .i64 m.ref, .int .i64 m.born, .string m.topic, .string m.tag, .string m.body, .slice A m.keys.length c] 39))
  have HLa : Strs (w1.alloc (.cells #[.int .i64 m.kind, .int .i64 m.queue, .int .i64 m.due, .int .i64 m.retry, .int .i64 m.ref, .int .i64 m.born, .string m.topic, .string m.tag, .string m.body, .slice A m.keys.length c] 39)) A m.keys := HL.out.below (balloc HB1)
  refine wp_loop_rounds 1 ?_
  rw [rounds_succ]
  go_wp2_with (first
    | (go_at_call 21; refine (step_bad m A c g now _ HLa hn HS.out (by omega) hB HK.out HR.out h0 h1).mono ?_; rintro e w2 ⟨A2, c2, n, hn0, rfl, hb⟩; have HBk : Below w.heap.size w w2 := bstep (balloc HB1) hb))
  go_ret
  exact ⟨rfl, balloc HBk⟩


set_option maxRecDepth 100000 in
set_option maxHeartbeats 16000000 in
theorem chain_g (m : Msg) (A : Option Addr) (c : Nat) (g : ByteArray) (now : Int) (w : World) (hl : Strs w A m.keys) (hG : (greatM m) = false) (hS : (decide ((100 : Int) < (g.size : Int))) = false) (hK : (m.kind != 1) = false) (hR : (m.retry != 0) = false) (h0 : 0 ≤ now) (h1 : now ≤ 4294967295) (hB : okM m g = true) (hM : mayM m = true) :
    Calls Try.prog 6 #[.agg #[.int .i64 m.kind, .int .i64 m.queue, .int .i64 m.due, .int .i64 m.retry, .int .i64 m.ref, .int .i64 m.born, .string m.topic, .string m.tag, .string m.body, .slice A m.keys.length c], .string g, .int .u32 now] w fun e w' => e = .returned (.bool true) ∧ Below w.heap.size w w' := by
  have HL := Lib.hid hl
  clear hl
  obtain ⟨hn, hs, -, -, -, -⟩ := great_small hG
  have HS := Lib.hid hs
  have hgz : g.size ≤ 100 := by simp at hS; omega
  have hk : m.kind = 1 := by simpa using hK
  have hr : m.retry = 0 := by simpa using hR
  have HK := Lib.hid hk
  have HR := Lib.hid hr
  clear hs hk hr
  go_enter Try.func6, Try.ntmps6
  go_wp2_with (first
    | (go_at_call 9; refine (awake_any _).mono ?_; rintro e w' ⟨rfl, rfl⟩)
    | (go_at_call 20; refine (great_any m A c (w.heap.size + 1) _ (HL.out.below (by repeat (first | exact Below.refl _ _ | apply balloc))) (heap_alloc2_new w _ _)).mono ?_; rintro e w1 ⟨rfl, hb⟩
       have HB1 : Below w.heap.size w w1 := bstep (by repeat (first | exact Below.refl _ _ | apply balloc)) hb
       have b3 : Blk w1 w.heap.size 39 #[.int .i64 m.kind, .int .i64 m.queue, .int .i64 m.due, .int .i64 m.retry, .int .i64 m.ref, .int .i64 m.born, .string m.topic, .string m.tag, .string m.body, .slice A m.keys.length c] := Blk.later (heap_alloc2_old w _ _) hb
       have hc3 := b3.cell))
  have HO := Lib.hid (show groupL (L g) = true ∧ okM m g = true ∧ mayM m = true from ⟨by simp only [okM, Bool.and_eq_true] at hB; exact hB.1, hB, hM⟩)
  clear hB hM
  have eX := Lib.hid (show (#[.int .i64 m.kind, .int .i64 m.queue, .int .i64 m.due, .int .i64 m.retry, .int .i64 m.ref, .int .i64 m.born, .string m.topic, .string m.tag, .string m.body, .slice A m.keys.length c] : Array Value) = #[.int .i64 1, .int .i64 m.queue, .int .i64 m.due, .int .i64 0, .int .i64 m.ref, .int .i64 m.born, .string m.topic, .string m.tag, .string m.body, .slice A m.keys.length c] by rw [HK.out, HR.out])
  go_loopw [8, 9, 10] (fun i8 i9 i10 wr => (i8 = .int .i64 now ∧ i9 = .int .i64 0 ∧ i10 = .int .i64 0 ∧ St w w1.heap.size m A c (fun A c => #[.int .i64 1, .int .i64 m.queue, .int .i64 m.due, .int .i64 0, .int .i64 m.ref, .int .i64 m.born, .string m.topic, .string m.tag, .string m.body, .slice A m.keys.length c]) wr) ∨ (i8 = .int .i64 (now + 2) ∧ i9 = .int .i64 2 ∧ i10 = .int .i64 1 ∧ St w w1.heap.size m A c (fun A c => #[.int .i64 3, .int .i64 0, .int .i64 (now + 2), .int .i64 1, .int .i64 100, .int .i64 (now + 2), .string (ownB (B retryL) g), .string m.tag, .string m.body, .slice A m.keys.length c]) wr) ∨ (i8 = .int .i64 (now + 6) ∧ i9 = .int .i64 4 ∧ i10 = .int .i64 2 ∧ St w w1.heap.size m A c (fun A c => #[.int .i64 3, .int .i64 0, .int .i64 (now + 6), .int .i64 2, .int .i64 101, .int .i64 (now + 6), .string (ownB (B retryL) g), .string m.tag, .string m.body, .slice A m.keys.length c]) wr) ∨ (i8 = .int .i64 (now + 14) ∧ i9 = .int .i64 8 ∧ i10 = .int .i64 3 ∧ St w w1.heap.size m A c (fun A c => #[.int .i64 3, .int .i64 0, .int .i64 (now + 14), .int .i64 3, .int .i64 102, .int .i64 (now + 14), .string (ownB (B retryL) g), .string m.tag, .string m.body, .slice A m.keys.length c]) wr) ∨ (i8 = .int .i64 (now + 30) ∧ i9 = .int .i64 16 ∧ i10 = .int .i64 4 ∧ St w w1.heap.size m A c (fun A c => #[.int .i64 3, .int .i64 0, .int .i64 (now + 30), .int .i64 4, .int .i64 103, .int .i64 (now + 30), .string (ownB (B retryL) g), .string m.tag, .string m.body, .slice A m.keys.length c]) wr)) (fun _ _ i10 _ => (5 - intOf i10).toNat)
  case atStart => exact .inl ⟨rfl, rfl, rfl, balloc HB1, b3.later (balloc (Below.refl _ _)), A, c, HL.out.below (balloc HB1), by
    show Blk _ _ _ #[.int .i64 1, .int .i64 m.queue, .int .i64 m.due, .int .i64 0, .int .i64 m.ref, .int .i64 m.born, .string m.topic, .string m.tag, .string m.body, .slice A m.keys.length c]
    rw [← eX.out]
    exact Blk.new _ _ _⟩
  case round =>
    rcases hrel with ⟨rfl, rfl, rfl, hSt⟩ | ⟨rfl, rfl, rfl, hSt⟩ | ⟨rfl, rfl, rfl, hSt⟩ | ⟨rfl, rfl, rfl, hSt⟩ | ⟨rfl, rfl, rfl, hSt⟩
    · obtain ⟨HBr, b3r, A', c', hls, bXr⟩ := hSt
      have HLS := Lib.hid hls
      clear hls
      have hc3 := b3r.cell
      have hcX := bXr.cell
      have hz1 : w.heap.size < w1.heap.size := b3.lt
      have hq0 : now < (now + 2) := by omega
      have hq1 : decide ((now + 2) - now ≤ 0) = false := by rw [decide_eq_false_iff_not]; omega
      go_wp2_with (first
    | (go_at_call 21; refine (step_0 m A' c' g now _ HLS.out hn HS.out (by omega) HO.out.2.1 HK.out HR.out HO.out.2.2 h0 h1).mono ?_; rintro e w2 ⟨A2, c2, rfl, hrow, hb⟩
       have HBk : Below w.heap.size w w2 := bstep HBr hb
       have b3k := b3r.later hb
       have bXk := bXr.later hb
       have HG0 : w.heap.size < w2.heap.size := b3k.lt
       have HG1 : w1.heap.size < w2.heap.size := bXk.lt
       clear hc3 hcX
       have hc3 := b3k.cell
       have hA : Below w2.heap.size w2 (w2.alloc (.cells #[.int .i64 2, .int .i64 0, .int .i64 (now + 2), .int .i64 1, .int .i64 100, .int .i64 now, .string (ownB (B retryL) g), .string m.tag, .string m.body, .slice A2 m.keys.length c2] 39)) := balloc (Below.refl _ _)
       have bXa := bXk.later hA
       have b3a := b3k.later hA
       have bYa : Blk (w2.alloc (.cells #[.int .i64 2, .int .i64 0, .int .i64 (now + 2), .int .i64 1, .int .i64 100, .int .i64 now, .string (ownB (B retryL) g), .string m.tag, .string m.body, .slice A2 m.keys.length c2] 39)) w2.heap.size 39 #[.int .i64 2, .int .i64 0, .int .i64 (now + 2), .int .i64 1, .int .i64 100, .int .i64 now, .string (ownB (B retryL) g), .string m.tag, .string m.body, .slice A2 m.keys.length c2] := Blk.new _ _ _
       have hrowa := Lib.hid (ownsRow_later hrow hA)
       have HBa : Below w.heap.size w (w2.alloc (.cells #[.int .i64 2, .int .i64 0, .int .i64 (now + 2), .int .i64 1, .int .i64 100, .int .i64 now, .string (ownB (B retryL) g), .string m.tag, .string m.body, .slice A2 m.keys.length c2] 39)) := bstep HBk hA)
    | (refine ev_row (ty := 39) (x := .tmp 7) (y := .tmp 122) (g := w1.heap.size) (cells := #[.int .i64 2, .int .i64 0, .int .i64 (now + 2), .int .i64 1, .int .i64 100, .int .i64 now, .string (ownB (B retryL) g), .string m.tag, .string m.body, .slice A2 m.keys.length c2]) ?_ ?_ ?_ ?_ ?_ ?_ ?_ bXa ?_ ?_; (rfl); (rfl); (rfl); (rfl); (rfl); (simp [Value.oneCell']); (kernel_rfl); (rfl)
       intro w3 u3 hbt
       have HB3 : Below w.heap.size w w3 := HBa.trans (hbt.below (by omega))
       have hrow3 := Lib.hid (ownsRow_but hrowa.out hbt bXa (by decide))
       have b33 := b3a.but hbt (by omega)
       clear hc3)
    | (refine ev_field (ty := 3) (x := .tmp 124) (y := .const (.int .i64 3)) (g := w1.heap.size) (i := 0) (v := .int .i64 3) ?_ ?_ ?_ ?_ ?_ ?_ ?_ u3 ?_ ?_; (rfl); (rfl); (rfl); (rfl); (rfl); (rfl); (kernel_rfl); (simp)
       intro w4 u4 hbt
       replace u4 : Blk w4 w1.heap.size 39 #[.int .i64 3, .int .i64 0, .int .i64 (now + 2), .int .i64 1, .int .i64 100, .int .i64 now, .string (ownB (B retryL) g), .string m.tag, .string m.body, .slice A2 m.keys.length c2] := u4
       have HB4 : Below w.heap.size w w4 := HB3.trans (hbt.below (by omega))
       have hrow4 := Lib.hid (ownsRow_but hrow3.out hbt u3 (by decide))
       have b34 := b33.but hbt (by omega))
    | (refine ev_field (ty := 3) (x := .tmp 125) (y := .tmp 123) (g := w1.heap.size) (i := 5) (v := .int .i64 (now + 2)) ?_ ?_ ?_ ?_ ?_ ?_ ?_ u4 ?_ ?_; (rfl); (rfl); (rfl); (rfl); (rfl); (rfl); (kernel_rfl); (simp)
       intro w5 u5 hbt
       replace u5 : Blk w5 w1.heap.size 39 #[.int .i64 3, .int .i64 0, .int .i64 (now + 2), .int .i64 1, .int .i64 100, .int .i64 (now + 2), .string (ownB (B retryL) g), .string m.tag, .string m.body, .slice A2 m.keys.length c2] := u5
       have HB5 : Below w.heap.size w w5 := HB4.trans (hbt.below (by omega))
       have hrow5 := Lib.hid (ownsRow_but hrow4.out hbt u4 (by decide))
       have b35 := b34.but hbt (by omega)))
      go_roundw
      case rel => exact (.inr (.inl ⟨rfl, congrArg (Value.int .i64) (by omega), rfl, HB5, b35, A2, c2, Strs.of_row hrow5.out, u5⟩))
      case measure => simp [intOf]
    · obtain ⟨HBr, b3r, A', c', hls, bXr⟩ := hSt
      have HLS := Lib.hid hls
      clear hls
      have hc3 := b3r.cell
      have hcX := bXr.cell
      have hz1 : w.heap.size < w1.heap.size := b3.lt
      have hq0 : (now + 2) < (now + 6) := by omega
      have hq1 : decide ((now + 6) - (now + 2) ≤ 2) = false := by rw [decide_eq_false_iff_not]; omega
      go_wp2_with (first
    | (go_at_call 21; refine (step_1 m A' c' g now _ HLS.out hn HS.out (by omega) HO.out.2.1 h0 h1).mono ?_; rintro e w2 ⟨A2, c2, rfl, hrow, hb⟩
       have HBk : Below w.heap.size w w2 := bstep HBr hb
       have b3k := b3r.later hb
       have bXk := bXr.later hb
       have HG0 : w.heap.size < w2.heap.size := b3k.lt
       have HG1 : w1.heap.size < w2.heap.size := bXk.lt
       clear hc3 hcX
       have hc3 := b3k.cell
       have hA : Below w2.heap.size w2 (w2.alloc (.cells #[.int .i64 2, .int .i64 0, .int .i64 (now + 6), .int .i64 2, .int .i64 101, .int .i64 (now + 2), .string (ownB (B retryL) g), .string m.tag, .string m.body, .slice A2 m.keys.length c2] 39)) := balloc (Below.refl _ _)
       have bXa := bXk.later hA
       have b3a := b3k.later hA
       have bYa : Blk (w2.alloc (.cells #[.int .i64 2, .int .i64 0, .int .i64 (now + 6), .int .i64 2, .int .i64 101, .int .i64 (now + 2), .string (ownB (B retryL) g), .string m.tag, .string m.body, .slice A2 m.keys.length c2] 39)) w2.heap.size 39 #[.int .i64 2, .int .i64 0, .int .i64 (now + 6), .int .i64 2, .int .i64 101, .int .i64 (now + 2), .string (ownB (B retryL) g), .string m.tag, .string m.body, .slice A2 m.keys.length c2] := Blk.new _ _ _
       have hrowa := Lib.hid (ownsRow_later hrow hA)
       have HBa : Below w.heap.size w (w2.alloc (.cells #[.int .i64 2, .int .i64 0, .int .i64 (now + 6), .int .i64 2, .int .i64 101, .int .i64 (now + 2), .string (ownB (B retryL) g), .string m.tag, .string m.body, .slice A2 m.keys.length c2] 39)) := bstep HBk hA)
    | (refine ev_row (ty := 39) (x := .tmp 7) (y := .tmp 122) (g := w1.heap.size) (cells := #[.int .i64 2, .int .i64 0, .int .i64 (now + 6), .int .i64 2, .int .i64 101, .int .i64 (now + 2), .string (ownB (B retryL) g), .string m.tag, .string m.body, .slice A2 m.keys.length c2]) ?_ ?_ ?_ ?_ ?_ ?_ ?_ bXa ?_ ?_; (rfl); (rfl); (rfl); (rfl); (rfl); (simp [Value.oneCell']); (kernel_rfl); (rfl)
       intro w3 u3 hbt
       have HB3 : Below w.heap.size w w3 := HBa.trans (hbt.below (by omega))
       have hrow3 := Lib.hid (ownsRow_but hrowa.out hbt bXa (by decide))
       have b33 := b3a.but hbt (by omega)
       clear hc3)
    | (refine ev_field (ty := 3) (x := .tmp 124) (y := .const (.int .i64 3)) (g := w1.heap.size) (i := 0) (v := .int .i64 3) ?_ ?_ ?_ ?_ ?_ ?_ ?_ u3 ?_ ?_; (rfl); (rfl); (rfl); (rfl); (rfl); (rfl); (kernel_rfl); (simp)
       intro w4 u4 hbt
       replace u4 : Blk w4 w1.heap.size 39 #[.int .i64 3, .int .i64 0, .int .i64 (now + 6), .int .i64 2, .int .i64 101, .int .i64 (now + 2), .string (ownB (B retryL) g), .string m.tag, .string m.body, .slice A2 m.keys.length c2] := u4
       have HB4 : Below w.heap.size w w4 := HB3.trans (hbt.below (by omega))
       have hrow4 := Lib.hid (ownsRow_but hrow3.out hbt u3 (by decide))
       have b34 := b33.but hbt (by omega))
    | (refine ev_field (ty := 3) (x := .tmp 125) (y := .tmp 123) (g := w1.heap.size) (i := 5) (v := .int .i64 (now + 6)) ?_ ?_ ?_ ?_ ?_ ?_ ?_ u4 ?_ ?_; (rfl); (rfl); (rfl); (rfl); (rfl); (rfl); (kernel_rfl); (simp)
       intro w5 u5 hbt
       replace u5 : Blk w5 w1.heap.size 39 #[.int .i64 3, .int .i64 0, .int .i64 (now + 6), .int .i64 2, .int .i64 101, .int .i64 (now + 6), .string (ownB (B retryL) g), .string m.tag, .string m.body, .slice A2 m.keys.length c2] := u5
       have HB5 : Below w.heap.size w w5 := HB4.trans (hbt.below (by omega))
       have hrow5 := Lib.hid (ownsRow_but hrow4.out hbt u4 (by decide))
       have b35 := b34.but hbt (by omega)))
      go_roundw
      case rel => exact (.inr (.inr (.inl ⟨rfl, congrArg (Value.int .i64) (by omega), rfl, HB5, b35, A2, c2, Strs.of_row hrow5.out, u5⟩)))
      case measure => simp [intOf]
    · obtain ⟨HBr, b3r, A', c', hls, bXr⟩ := hSt
      have HLS := Lib.hid hls
      clear hls
      have hc3 := b3r.cell
      have hcX := bXr.cell
      have hz1 : w.heap.size < w1.heap.size := b3.lt
      have hq0 : (now + 6) < (now + 14) := by omega
      have hq1 : decide ((now + 14) - (now + 6) ≤ 4) = false := by rw [decide_eq_false_iff_not]; omega
      go_wp2_with (first
    | (go_at_call 21; refine (step_2 m A' c' g now _ HLS.out hn HS.out (by omega) HO.out.2.1 h0 h1).mono ?_; rintro e w2 ⟨A2, c2, rfl, hrow, hb⟩
       have HBk : Below w.heap.size w w2 := bstep HBr hb
       have b3k := b3r.later hb
       have bXk := bXr.later hb
       have HG0 : w.heap.size < w2.heap.size := b3k.lt
       have HG1 : w1.heap.size < w2.heap.size := bXk.lt
       clear hc3 hcX
       have hc3 := b3k.cell
       have hA : Below w2.heap.size w2 (w2.alloc (.cells #[.int .i64 2, .int .i64 0, .int .i64 (now + 14), .int .i64 3, .int .i64 102, .int .i64 (now + 6), .string (ownB (B retryL) g), .string m.tag, .string m.body, .slice A2 m.keys.length c2] 39)) := balloc (Below.refl _ _)
       have bXa := bXk.later hA
       have b3a := b3k.later hA
       have bYa : Blk (w2.alloc (.cells #[.int .i64 2, .int .i64 0, .int .i64 (now + 14), .int .i64 3, .int .i64 102, .int .i64 (now + 6), .string (ownB (B retryL) g), .string m.tag, .string m.body, .slice A2 m.keys.length c2] 39)) w2.heap.size 39 #[.int .i64 2, .int .i64 0, .int .i64 (now + 14), .int .i64 3, .int .i64 102, .int .i64 (now + 6), .string (ownB (B retryL) g), .string m.tag, .string m.body, .slice A2 m.keys.length c2] := Blk.new _ _ _
       have hrowa := Lib.hid (ownsRow_later hrow hA)
       have HBa : Below w.heap.size w (w2.alloc (.cells #[.int .i64 2, .int .i64 0, .int .i64 (now + 14), .int .i64 3, .int .i64 102, .int .i64 (now + 6), .string (ownB (B retryL) g), .string m.tag, .string m.body, .slice A2 m.keys.length c2] 39)) := bstep HBk hA)
    | (refine ev_row (ty := 39) (x := .tmp 7) (y := .tmp 122) (g := w1.heap.size) (cells := #[.int .i64 2, .int .i64 0, .int .i64 (now + 14), .int .i64 3, .int .i64 102, .int .i64 (now + 6), .string (ownB (B retryL) g), .string m.tag, .string m.body, .slice A2 m.keys.length c2]) ?_ ?_ ?_ ?_ ?_ ?_ ?_ bXa ?_ ?_; (rfl); (rfl); (rfl); (rfl); (rfl); (simp [Value.oneCell']); (kernel_rfl); (rfl)
       intro w3 u3 hbt
       have HB3 : Below w.heap.size w w3 := HBa.trans (hbt.below (by omega))
       have hrow3 := Lib.hid (ownsRow_but hrowa.out hbt bXa (by decide))
       have b33 := b3a.but hbt (by omega)
       clear hc3)
    | (refine ev_field (ty := 3) (x := .tmp 124) (y := .const (.int .i64 3)) (g := w1.heap.size) (i := 0) (v := .int .i64 3) ?_ ?_ ?_ ?_ ?_ ?_ ?_ u3 ?_ ?_; (rfl); (rfl); (rfl); (rfl); (rfl); (rfl); (kernel_rfl); (simp)
       intro w4 u4 hbt
       replace u4 : Blk w4 w1.heap.size 39 #[.int .i64 3, .int .i64 0, .int .i64 (now + 14), .int .i64 3, .int .i64 102, .int .i64 (now + 6), .string (ownB (B retryL) g), .string m.tag, .string m.body, .slice A2 m.keys.length c2] := u4
       have HB4 : Below w.heap.size w w4 := HB3.trans (hbt.below (by omega))
       have hrow4 := Lib.hid (ownsRow_but hrow3.out hbt u3 (by decide))
       have b34 := b33.but hbt (by omega))
    | (refine ev_field (ty := 3) (x := .tmp 125) (y := .tmp 123) (g := w1.heap.size) (i := 5) (v := .int .i64 (now + 14)) ?_ ?_ ?_ ?_ ?_ ?_ ?_ u4 ?_ ?_; (rfl); (rfl); (rfl); (rfl); (rfl); (rfl); (kernel_rfl); (simp)
       intro w5 u5 hbt
       replace u5 : Blk w5 w1.heap.size 39 #[.int .i64 3, .int .i64 0, .int .i64 (now + 14), .int .i64 3, .int .i64 102, .int .i64 (now + 14), .string (ownB (B retryL) g), .string m.tag, .string m.body, .slice A2 m.keys.length c2] := u5
       have HB5 : Below w.heap.size w w5 := HB4.trans (hbt.below (by omega))
       have hrow5 := Lib.hid (ownsRow_but hrow4.out hbt u4 (by decide))
       have b35 := b34.but hbt (by omega)))
      go_roundw
      case rel => exact (.inr (.inr (.inr (.inl ⟨rfl, congrArg (Value.int .i64) (by omega), rfl, HB5, b35, A2, c2, Strs.of_row hrow5.out, u5⟩))))
      case measure => simp [intOf]
    · obtain ⟨HBr, b3r, A', c', hls, bXr⟩ := hSt
      have HLS := Lib.hid hls
      clear hls
      have hc3 := b3r.cell
      have hcX := bXr.cell
      have hz1 : w.heap.size < w1.heap.size := b3.lt
      have hq0 : (now + 14) < (now + 30) := by omega
      have hq1 : decide ((now + 30) - (now + 14) ≤ 8) = false := by rw [decide_eq_false_iff_not]; omega
      go_wp2_with (first
    | (go_at_call 21; refine (step_3 m A' c' g now _ HLS.out hn HS.out (by omega) HO.out.2.1 h0 h1).mono ?_; rintro e w2 ⟨A2, c2, rfl, hrow, hb⟩
       have HBk : Below w.heap.size w w2 := bstep HBr hb
       have b3k := b3r.later hb
       have bXk := bXr.later hb
       have HG0 : w.heap.size < w2.heap.size := b3k.lt
       have HG1 : w1.heap.size < w2.heap.size := bXk.lt
       clear hc3 hcX
       have hc3 := b3k.cell
       have hA : Below w2.heap.size w2 (w2.alloc (.cells #[.int .i64 2, .int .i64 0, .int .i64 (now + 30), .int .i64 4, .int .i64 103, .int .i64 (now + 14), .string (ownB (B retryL) g), .string m.tag, .string m.body, .slice A2 m.keys.length c2] 39)) := balloc (Below.refl _ _)
       have bXa := bXk.later hA
       have b3a := b3k.later hA
       have bYa : Blk (w2.alloc (.cells #[.int .i64 2, .int .i64 0, .int .i64 (now + 30), .int .i64 4, .int .i64 103, .int .i64 (now + 14), .string (ownB (B retryL) g), .string m.tag, .string m.body, .slice A2 m.keys.length c2] 39)) w2.heap.size 39 #[.int .i64 2, .int .i64 0, .int .i64 (now + 30), .int .i64 4, .int .i64 103, .int .i64 (now + 14), .string (ownB (B retryL) g), .string m.tag, .string m.body, .slice A2 m.keys.length c2] := Blk.new _ _ _
       have hrowa := Lib.hid (ownsRow_later hrow hA)
       have HBa : Below w.heap.size w (w2.alloc (.cells #[.int .i64 2, .int .i64 0, .int .i64 (now + 30), .int .i64 4, .int .i64 103, .int .i64 (now + 14), .string (ownB (B retryL) g), .string m.tag, .string m.body, .slice A2 m.keys.length c2] 39)) := bstep HBk hA)
    | (refine ev_row (ty := 39) (x := .tmp 7) (y := .tmp 122) (g := w1.heap.size) (cells := #[.int .i64 2, .int .i64 0, .int .i64 (now + 30), .int .i64 4, .int .i64 103, .int .i64 (now + 14), .string (ownB (B retryL) g), .string m.tag, .string m.body, .slice A2 m.keys.length c2]) ?_ ?_ ?_ ?_ ?_ ?_ ?_ bXa ?_ ?_; (rfl); (rfl); (rfl); (rfl); (rfl); (simp [Value.oneCell']); (kernel_rfl); (rfl)
       intro w3 u3 hbt
       have HB3 : Below w.heap.size w w3 := HBa.trans (hbt.below (by omega))
       have hrow3 := Lib.hid (ownsRow_but hrowa.out hbt bXa (by decide))
       have b33 := b3a.but hbt (by omega)
       clear hc3)
    | (refine ev_field (ty := 3) (x := .tmp 124) (y := .const (.int .i64 3)) (g := w1.heap.size) (i := 0) (v := .int .i64 3) ?_ ?_ ?_ ?_ ?_ ?_ ?_ u3 ?_ ?_; (rfl); (rfl); (rfl); (rfl); (rfl); (rfl); (kernel_rfl); (simp)
       intro w4 u4 hbt
       replace u4 : Blk w4 w1.heap.size 39 #[.int .i64 3, .int .i64 0, .int .i64 (now + 30), .int .i64 4, .int .i64 103, .int .i64 (now + 14), .string (ownB (B retryL) g), .string m.tag, .string m.body, .slice A2 m.keys.length c2] := u4
       have HB4 : Below w.heap.size w w4 := HB3.trans (hbt.below (by omega))
       have hrow4 := Lib.hid (ownsRow_but hrow3.out hbt u3 (by decide))
       have b34 := b33.but hbt (by omega))
    | (refine ev_field (ty := 3) (x := .tmp 125) (y := .tmp 123) (g := w1.heap.size) (i := 5) (v := .int .i64 (now + 30)) ?_ ?_ ?_ ?_ ?_ ?_ ?_ u4 ?_ ?_; (rfl); (rfl); (rfl); (rfl); (rfl); (rfl); (kernel_rfl); (simp)
       intro w5 u5 hbt
       replace u5 : Blk w5 w1.heap.size 39 #[.int .i64 3, .int .i64 0, .int .i64 (now + 30), .int .i64 4, .int .i64 103, .int .i64 (now + 30), .string (ownB (B retryL) g), .string m.tag, .string m.body, .slice A2 m.keys.length c2] := u5
       have HB5 : Below w.heap.size w w5 := HB4.trans (hbt.below (by omega))
       have hrow5 := Lib.hid (ownsRow_but hrow4.out hbt u4 (by decide))
       have b35 := b34.but hbt (by omega)))
      go_roundw
      case rel => exact (.inr (.inr (.inr (.inr ⟨rfl, congrArg (Value.int .i64) (by omega), rfl, HB5, b35, A2, c2, Strs.of_row hrow5.out, u5⟩))))
      case measure => simp [intOf]
    · obtain ⟨HBr, b3r, A', c', hls, bXr⟩ := hSt
      have HLS := Lib.hid hls
      clear hls
      have hc3 := b3r.cell
      have hcX := bXr.cell
      have hz1 : w.heap.size < w1.heap.size := b3.lt
      have hT : ((ownB (B deadL) g).toList == (⟨#[37, 100, 101, 97, 100, 37]⟩ ++ g).toList) = true := by rw [← ownB_yes HO.out.1]; simp [B, deadL]
      go_wp2_with (first
    | (go_at_call 21; refine (step_4 m A' c' g now _ HLS.out hn HS.out (by omega) HO.out.2.1 h0 h1).mono ?_; rintro e w2 ⟨A2, c2, rfl, hrow, hb⟩
       have HBk : Below w.heap.size w w2 := bstep HBr hb
       have b3k := b3r.later hb
       have bXk := bXr.later hb
       have HG0 : w.heap.size < w2.heap.size := b3k.lt
       have HG1 : w1.heap.size < w2.heap.size := bXk.lt
       clear hc3 hcX
       have hc3 := b3k.cell
       have hA : Below w2.heap.size w2 (w2.alloc (.cells #[.int .i64 1, .int .i64 0, .int .i64 0, .int .i64 4, .int .i64 0, .int .i64 (now + 30), .string (ownB (B deadL) g), .string m.tag, .string m.body, .slice A2 m.keys.length c2] 39)) := balloc (Below.refl _ _)
       have bXa := bXk.later hA
       have b3a := b3k.later hA
       have bYa : Blk (w2.alloc (.cells #[.int .i64 1, .int .i64 0, .int .i64 0, .int .i64 4, .int .i64 0, .int .i64 (now + 30), .string (ownB (B deadL) g), .string m.tag, .string m.body, .slice A2 m.keys.length c2] 39)) w2.heap.size 39 #[.int .i64 1, .int .i64 0, .int .i64 0, .int .i64 4, .int .i64 0, .int .i64 (now + 30), .string (ownB (B deadL) g), .string m.tag, .string m.body, .slice A2 m.keys.length c2] := Blk.new _ _ _
       have hrowa := Lib.hid (ownsRow_later hrow hA)
       have HBa : Below w.heap.size w (w2.alloc (.cells #[.int .i64 1, .int .i64 0, .int .i64 0, .int .i64 4, .int .i64 0, .int .i64 (now + 30), .string (ownB (B deadL) g), .string m.tag, .string m.body, .slice A2 m.keys.length c2] 39)) := bstep HBk hA)
)
      go_ret
      exact ⟨rfl, HBa⟩


theorem chain_any (m : Msg) (A : Option Addr) (c : Nat) (g : ByteArray) (now : Int) (w : World) (hl : Strs w A m.keys) (h0 : 0 ≤ now) (h1 : now ≤ 4294967295) :
    Calls Try.prog 6 #[.agg #[.int .i64 m.kind, .int .i64 m.queue, .int .i64 m.due, .int .i64 m.retry, .int .i64 m.ref, .int .i64 m.born, .string m.topic, .string m.tag, .string m.body, .slice A m.keys.length c], .string g, .int .u32 now] w fun e w' => e = .returned (.bool true) ∧ Below w.heap.size w w' := by
  rcases Bool.eq_false_or_eq_true (greatM m) with hG | hG
  · exact chain_0 m A c g now w hl hG
  rcases Bool.eq_false_or_eq_true (decide ((100 : Int) < (g.size : Int))) with hS | hS
  · exact chain_1 m A c g now w hl hG hS
  rcases Bool.eq_false_or_eq_true (m.kind != 1) with hK | hK
  · exact chain_2 m A c g now w hl hG hS hK
  rcases Bool.eq_false_or_eq_true (m.retry != 0) with hR | hR
  · exact chain_3 m A c g now w hl hG hS hK hR
  rcases Bool.eq_false_or_eq_true (okM m g) with hB | hB
  · rcases Bool.eq_false_or_eq_true (mayM m) with hM | hM
    · exact chain_g m A c g now w hl hG hS hK hR h0 h1 hB hM
    · exact chain_b m A c g now w hl hG hS hK hR h0 h1 (.inr hM)
  · exact chain_b m A c g now w hl hG hS hK hR h0 h1 (.inl hB)

end Go.Proofs.Ytnlpohcnlmdocaa
