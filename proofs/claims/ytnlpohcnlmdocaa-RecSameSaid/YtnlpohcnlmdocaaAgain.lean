/- What comes of a message that failed: level.Again. -/
import Derived.Test.YtnlpohcnlmdocaaTime
namespace Go.Proofs.Ytnlpohcnlmdocaa
open Go.RowKit Go.Shelf
set_option linter.unusedSimpArgs false
set_option linter.unusedVariables false

def delayN (n : Int) : Int := if n = 1 then 2 else if n = 2 then 4 else if n = 3 then 8 else if n = 4 then 16 else 0

set_option maxHeartbeats 1000000 in
theorem delay_any (n : Int) (w : World) (h1 : 1 ≤ n) (h2 : n ≤ 4) : Calls Try.prog 26 #[.int .i64 n] w fun e w' => e = .returned (.int .i64 (delayN n)) ∧ w = w' := by
  obtain rfl | rfl | rfl | rfl : n = 1 ∨ n = 2 ∨ n = 3 ∨ n = 4 := by omega
  all_goals
    go_enter Try.func26, Try.ntmps26
    go_wp2
    go_ret
    exact ⟨rfl, rfl⟩

def zeroM : Msg := ⟨0, 0, 0, 0, 0, 0, ⟨#[]⟩, ⟨#[]⟩, ⟨#[]⟩, []⟩
def deadM (m : Msg) (g : ByteArray) (now : Int) : Msg := ⟨1, 0, 0, m.retry, 0, now, ownB (B deadL) g, m.tag, m.body, m.keys⟩
def retryM (m : Msg) (id : Int) (g : ByteArray) (now : Int) : Msg := ⟨2, 0, now + delayN (m.retry + 1), m.retry + 1, id, now, ownB (B retryL) g, m.tag, m.body, m.keys⟩
def mayM (m : Msg) : Bool := rightM m && ((m.kind == 1) || (m.kind == 3))
def againM (m : Msg) (id : Int) (g : ByteArray) (now : Int) : Msg × Int :=
  if groupL (L g) then (if mayM m then (if allI okT [id, now] then (if decide (4 ≤ m.retry) then (deadM m g now, 0) else (retryM m id g now, 0)) else (zeroM, 1)) else (zeroM, 1)) else (zeroM, 11)

theorem kind13 (k : Int) : ((k == 1) = true ∧ (k == 3) = false ∧ (k != 1) = false ∧ (k != 3) = true) ∨ ((k == 1) = false ∧ (k == 3) = true ∧ (k != 1) = true ∧ (k != 3) = false) ∨ ((k == 1) = false ∧ (k == 3) = false ∧ (k != 1) = true ∧ (k != 3) = true) := by
  simp only [beq_eq_false_iff_ne, beq_iff_eq, ne_eq, bne_iff_ne, bne_eq_false_iff_eq]; omega

theorem results_two {w : World} (P : Program) (fn : Func) (a b : ResultVar) (hr : fn.results = #[a, b]) : True := trivial


set_option maxHeartbeats 8000000 in
theorem again_g (m : Msg) (A : Option Addr) (c : Nat) (id : Int) (g : ByteArray) (now : Int) (w : World) (hl : Strs w A m.keys) (hn : m.keys.length * 16 ≤ 140737488355328) (hs : ∀ s ∈ m.keys, s.size ≤ 9223372036854775807) (hgz : g.size ≤ 9223372036854775800)
    (f0 : groupL (L g) = false) :
    Calls Try.prog 21 #[.agg #[.int .i64 m.kind, .int .i64 m.queue, .int .i64 m.due, .int .i64 m.retry, .int .i64 m.ref, .int .i64 m.born, .string m.topic, .string m.tag, .string m.body, .slice A m.keys.length c], .int .i64 id, .string g, .int .i64 now] w fun e w' => (∃ v, e = .returned (.tuple #[v, .int .i64 (againM m id g now).2]) ∧ OwnMsg w.heap.size w' v (againM m id g now).1) ∧ Below w.heap.size w w' := by
  have HR := Lib.hid (show againM m id g now = (zeroM, 11) by simp only [againM, f0]; rfl)
  have HL := Lib.hid hl
  have HS := Lib.hid hs
  clear hl hs
  have HB := Below.refl w.heap.size w
  have e2 : Blk ((w.alloc (.cells #[.int .i64 m.kind, .int .i64 m.queue, .int .i64 m.due, .int .i64 m.retry, .int .i64 m.ref, .int .i64 m.born, .string m.topic, .string m.tag, .string m.body, .slice A m.keys.length c] 39)).alloc (.cells #[.int .i64 0, .int .i64 0, .int .i64 0, .int .i64 0, .int .i64 0, .int .i64 0, .string ⟨#[]⟩, .string ⟨#[]⟩, .string ⟨#[]⟩, .slice none 0 0] 39)) w.heap.size 39 #[.int .i64 m.kind, .int .i64 m.queue, .int .i64 m.due, .int .i64 m.retry, .int .i64 m.ref, .int .i64 m.born, .string m.topic, .string m.tag, .string m.body, .slice A m.keys.length c] := heap_alloc2_old w _ _
  have e3 : Blk ((w.alloc (.cells #[.int .i64 m.kind, .int .i64 m.queue, .int .i64 m.due, .int .i64 m.retry, .int .i64 m.ref, .int .i64 m.born, .string m.topic, .string m.tag, .string m.body, .slice A m.keys.length c] 39)).alloc (.cells #[.int .i64 0, .int .i64 0, .int .i64 0, .int .i64 0, .int .i64 0, .int .i64 0, .string ⟨#[]⟩, .string ⟨#[]⟩, .string ⟨#[]⟩, .slice none 0 0] 39)) (w.heap.size + 1) 39 #[.int .i64 0, .int .i64 0, .int .i64 0, .int .i64 0, .int .i64 0, .int .i64 0, .string ⟨#[]⟩, .string ⟨#[]⟩, .string ⟨#[]⟩, .slice none 0 0] := heap_alloc2_new w _ _
  go_enter Try.func21, Try.ntmps21
  go_wp2_with (first
    | (go_at_call 43; refine (group_any _ _).mono ?_; rintro e w1 ⟨rfl, hb⟩
       have HB1 : Below w.heap.size w w1 := bstep (by repeat (first | exact HB | apply balloc)) hb
       have b2 := e2.later hb
       have b3 := e3.later hb
       have hc2 := b2.cell)
    | (refine ev_row (ty := 39) (x := .tmp 8) (y := .tmp 15) (g := w.heap.size + 1) (cells := #[.int .i64 0, .int .i64 0, .int .i64 0, .int .i64 0, .int .i64 0, .int .i64 0, .string ⟨#[]⟩, .string ⟨#[]⟩, .string ⟨#[]⟩, .slice none 0 0]) ?_ ?_ ?_ ?_ ?_ ?_ ?_ b3 ?_ ?_; (rfl); (rfl); (rfl); (rfl); (rfl); (simp [Value.oneCell']); (kernel_rfl); (rfl)
       intro w9 b9 hbt
       have HB9 : Below w.heap.size w w9 := HB1.trans (hbt.below (by omega))
       have hc9 := b9.cell))
  refine bodyPost_ret (v := .tuple #[.agg #[.int .i64 0, .int .i64 0, .int .i64 0, .int .i64 0, .int .i64 0, .int .i64 0, .string ⟨#[]⟩, .string ⟨#[]⟩, .string ⟨#[]⟩, .slice none 0 0], .int .i64 11]) ?_ rfl ⟨⟨_, by rw [HR.out], by rw [HR.out]; exact ⟨none, 0, rfl, Nat.le_refl _, World.ownsRow_nil _ _ _ _⟩⟩, HB9⟩
  simp [results, Try.results21, go_sem, hc9]


set_option maxHeartbeats 8000000 in
theorem again_r (m : Msg) (A : Option Addr) (c : Nat) (id : Int) (g : ByteArray) (now : Int) (w : World) (hl : Strs w A m.keys) (hn : m.keys.length * 16 ≤ 140737488355328) (hs : ∀ s ∈ m.keys, s.size ≤ 9223372036854775807) (hgz : g.size ≤ 9223372036854775800)
    (f0 : groupL (L g) = true) (f1 : rightM m = false) :
    Calls Try.prog 21 #[.agg #[.int .i64 m.kind, .int .i64 m.queue, .int .i64 m.due, .int .i64 m.retry, .int .i64 m.ref, .int .i64 m.born, .string m.topic, .string m.tag, .string m.body, .slice A m.keys.length c], .int .i64 id, .string g, .int .i64 now] w fun e w' => (∃ v, e = .returned (.tuple #[v, .int .i64 (againM m id g now).2]) ∧ OwnMsg w.heap.size w' v (againM m id g now).1) ∧ Below w.heap.size w w' := by
  have HR := Lib.hid (show againM m id g now = (zeroM, 1) by simp only [againM, mayM, f0, f1]; rfl)
  have HL := Lib.hid hl
  have HS := Lib.hid hs
  clear hl hs
  have HB := Below.refl w.heap.size w
  have e2 : Blk ((w.alloc (.cells #[.int .i64 m.kind, .int .i64 m.queue, .int .i64 m.due, .int .i64 m.retry, .int .i64 m.ref, .int .i64 m.born, .string m.topic, .string m.tag, .string m.body, .slice A m.keys.length c] 39)).alloc (.cells #[.int .i64 0, .int .i64 0, .int .i64 0, .int .i64 0, .int .i64 0, .int .i64 0, .string ⟨#[]⟩, .string ⟨#[]⟩, .string ⟨#[]⟩, .slice none 0 0] 39)) w.heap.size 39 #[.int .i64 m.kind, .int .i64 m.queue, .int .i64 m.due, .int .i64 m.retry, .int .i64 m.ref, .int .i64 m.born, .string m.topic, .string m.tag, .string m.body, .slice A m.keys.length c] := heap_alloc2_old w _ _
  have e3 : Blk ((w.alloc (.cells #[.int .i64 m.kind, .int .i64 m.queue, .int .i64 m.due, .int .i64 m.retry, .int .i64 m.ref, .int .i64 m.born, .string m.topic, .string m.tag, .string m.body, .slice A m.keys.length c] 39)).alloc (.cells #[.int .i64 0, .int .i64 0, .int .i64 0, .int .i64 0, .int .i64 0, .int .i64 0, .string ⟨#[]⟩, .string ⟨#[]⟩, .string ⟨#[]⟩, .slice none 0 0] 39)) (w.heap.size + 1) 39 #[.int .i64 0, .int .i64 0, .int .i64 0, .int .i64 0, .int .i64 0, .int .i64 0, .string ⟨#[]⟩, .string ⟨#[]⟩, .string ⟨#[]⟩, .slice none 0 0] := heap_alloc2_new w _ _
  go_enter Try.func21, Try.ntmps21
  go_wp2_with (first
    | (go_at_call 43; refine (group_any _ _).mono ?_; rintro e w1 ⟨rfl, hb⟩
       have HB1 : Below w.heap.size w w1 := bstep (by repeat (first | exact HB | apply balloc)) hb
       have b2 := e2.later hb
       have b3 := e3.later hb
       have hc2 := b2.cell)
    | (go_at_call 44; refine (right_any m _ _ _ (HL.out.below HB1) hn HS.out).mono ?_; rintro e w2 ⟨rfl, hb⟩
       have HB2 : Below w.heap.size w w2 := bstep HB1 hb
       have d2 := b2.later hb
       have d3 := b3.later hb
       clear hc2
       have hc2 := d2.cell)
    | (refine ev_row (ty := 39) (x := .tmp 8) (y := .tmp 37) (g := w.heap.size + 1) (cells := #[.int .i64 0, .int .i64 0, .int .i64 0, .int .i64 0, .int .i64 0, .int .i64 0, .string ⟨#[]⟩, .string ⟨#[]⟩, .string ⟨#[]⟩, .slice none 0 0]) ?_ ?_ ?_ ?_ ?_ ?_ ?_ d3 ?_ ?_; (rfl); (rfl); (rfl); (rfl); (rfl); (simp [Value.oneCell']); (kernel_rfl); (rfl)
       intro w9 b9 hbt
       have HB9 : Below w.heap.size w w9 := HB2.trans (hbt.below (by omega))
       have hc9 := b9.cell))
  refine bodyPost_ret (v := .tuple #[.agg #[.int .i64 0, .int .i64 0, .int .i64 0, .int .i64 0, .int .i64 0, .int .i64 0, .string ⟨#[]⟩, .string ⟨#[]⟩, .string ⟨#[]⟩, .slice none 0 0], .int .i64 1]) ?_ rfl ⟨⟨_, by rw [HR.out], by rw [HR.out]; exact ⟨none, 0, rfl, Nat.le_refl _, World.ownsRow_nil _ _ _ _⟩⟩, HB9⟩
  simp [results, Try.results21, go_sem, hc9]


set_option maxHeartbeats 8000000 in
theorem again_k (m : Msg) (A : Option Addr) (c : Nat) (id : Int) (g : ByteArray) (now : Int) (w : World) (hl : Strs w A m.keys) (hn : m.keys.length * 16 ≤ 140737488355328) (hs : ∀ s ∈ m.keys, s.size ≤ 9223372036854775807) (hgz : g.size ≤ 9223372036854775800)
    (f0 : groupL (L g) = true) (f1 : rightM m = true) (k1 : (m.kind == 1) = false) (k3 : (m.kind == 3) = false) (n1 : (m.kind != 1) = true) (n3 : (m.kind != 3) = true) :
    Calls Try.prog 21 #[.agg #[.int .i64 m.kind, .int .i64 m.queue, .int .i64 m.due, .int .i64 m.retry, .int .i64 m.ref, .int .i64 m.born, .string m.topic, .string m.tag, .string m.body, .slice A m.keys.length c], .int .i64 id, .string g, .int .i64 now] w fun e w' => (∃ v, e = .returned (.tuple #[v, .int .i64 (againM m id g now).2]) ∧ OwnMsg w.heap.size w' v (againM m id g now).1) ∧ Below w.heap.size w w' := by
  have HR := Lib.hid (show againM m id g now = (zeroM, 1) by simp only [againM, mayM, f0, f1, k1, k3]; rfl)
  have HL := Lib.hid hl
  have HS := Lib.hid hs
  clear hl hs
  have HB := Below.refl w.heap.size w
  have e2 : Blk ((w.alloc (.cells #[.int .i64 m.kind, .int .i64 m.queue, .int .i64 m.due, .int .i64 m.retry, .int .i64 m.ref, .int .i64 m.born, .string m.topic, .string m.tag, .string m.body, .slice A m.keys.length c] 39)).alloc (.cells #[.int .i64 0, .int .i64 0, .int .i64 0, .int .i64 0, .int .i64 0, .int .i64 0, .string ⟨#[]⟩, .string ⟨#[]⟩, .string ⟨#[]⟩, .slice none 0 0] 39)) w.heap.size 39 #[.int .i64 m.kind, .int .i64 m.queue, .int .i64 m.due, .int .i64 m.retry, .int .i64 m.ref, .int .i64 m.born, .string m.topic, .string m.tag, .string m.body, .slice A m.keys.length c] := heap_alloc2_old w _ _
  have e3 : Blk ((w.alloc (.cells #[.int .i64 m.kind, .int .i64 m.queue, .int .i64 m.due, .int .i64 m.retry, .int .i64 m.ref, .int .i64 m.born, .string m.topic, .string m.tag, .string m.body, .slice A m.keys.length c] 39)).alloc (.cells #[.int .i64 0, .int .i64 0, .int .i64 0, .int .i64 0, .int .i64 0, .int .i64 0, .string ⟨#[]⟩, .string ⟨#[]⟩, .string ⟨#[]⟩, .slice none 0 0] 39)) (w.heap.size + 1) 39 #[.int .i64 0, .int .i64 0, .int .i64 0, .int .i64 0, .int .i64 0, .int .i64 0, .string ⟨#[]⟩, .string ⟨#[]⟩, .string ⟨#[]⟩, .slice none 0 0] := heap_alloc2_new w _ _
  go_enter Try.func21, Try.ntmps21
  go_wp2_with (first
    | (go_at_call 43; refine (group_any _ _).mono ?_; rintro e w1 ⟨rfl, hb⟩
       have HB1 : Below w.heap.size w w1 := bstep (by repeat (first | exact HB | apply balloc)) hb
       have b2 := e2.later hb
       have b3 := e3.later hb
       have hc2 := b2.cell)
    | (go_at_call 44; refine (right_any m _ _ _ (HL.out.below HB1) hn HS.out).mono ?_; rintro e w2 ⟨rfl, hb⟩
       have HB2 : Below w.heap.size w w2 := bstep HB1 hb
       have d2 := b2.later hb
       have d3 := b3.later hb
       clear hc2
       have hc2 := d2.cell)
    | (refine ev_row (ty := 39) (x := .tmp 8) (y := .tmp 37) (g := w.heap.size + 1) (cells := #[.int .i64 0, .int .i64 0, .int .i64 0, .int .i64 0, .int .i64 0, .int .i64 0, .string ⟨#[]⟩, .string ⟨#[]⟩, .string ⟨#[]⟩, .slice none 0 0]) ?_ ?_ ?_ ?_ ?_ ?_ ?_ d3 ?_ ?_; (rfl); (rfl); (rfl); (rfl); (rfl); (simp [Value.oneCell']); (kernel_rfl); (rfl)
       intro w9 b9 hbt
       have HB9 : Below w.heap.size w w9 := HB2.trans (hbt.below (by omega))
       have hc9 := b9.cell))
  refine bodyPost_ret (v := .tuple #[.agg #[.int .i64 0, .int .i64 0, .int .i64 0, .int .i64 0, .int .i64 0, .int .i64 0, .string ⟨#[]⟩, .string ⟨#[]⟩, .string ⟨#[]⟩, .slice none 0 0], .int .i64 1]) ?_ rfl ⟨⟨_, by rw [HR.out], by rw [HR.out]; exact ⟨none, 0, rfl, Nat.le_refl _, World.ownsRow_nil _ _ _ _⟩⟩, HB9⟩
  simp [results, Try.results21, go_sem, hc9]


set_option maxHeartbeats 8000000 in
theorem again_t1 (m : Msg) (A : Option Addr) (c : Nat) (id : Int) (g : ByteArray) (now : Int) (w : World) (hl : Strs w A m.keys) (hn : m.keys.length * 16 ≤ 140737488355328) (hs : ∀ s ∈ m.keys, s.size ≤ 9223372036854775807) (hgz : g.size ≤ 9223372036854775800)
    (f0 : groupL (L g) = true) (f1 : rightM m = true) (k1 : (m.kind == 1) = true) (k3 : (m.kind == 3) = false) (n1 : (m.kind != 1) = false) (n3 : (m.kind != 3) = true) (f2 : allI okT [id, now] = false) :
    Calls Try.prog 21 #[.agg #[.int .i64 m.kind, .int .i64 m.queue, .int .i64 m.due, .int .i64 m.retry, .int .i64 m.ref, .int .i64 m.born, .string m.topic, .string m.tag, .string m.body, .slice A m.keys.length c], .int .i64 id, .string g, .int .i64 now] w fun e w' => (∃ v, e = .returned (.tuple #[v, .int .i64 (againM m id g now).2]) ∧ OwnMsg w.heap.size w' v (againM m id g now).1) ∧ Below w.heap.size w w' := by
  have HR := Lib.hid (show againM m id g now = (zeroM, 1) by simp only [againM, mayM, f0, f1, f2, k1, k3]; rfl)
  have HL := Lib.hid hl
  have HS := Lib.hid hs
  clear hl hs
  have HB := Below.refl w.heap.size w
  have e2 : Blk ((w.alloc (.cells #[.int .i64 m.kind, .int .i64 m.queue, .int .i64 m.due, .int .i64 m.retry, .int .i64 m.ref, .int .i64 m.born, .string m.topic, .string m.tag, .string m.body, .slice A m.keys.length c] 39)).alloc (.cells #[.int .i64 0, .int .i64 0, .int .i64 0, .int .i64 0, .int .i64 0, .int .i64 0, .string ⟨#[]⟩, .string ⟨#[]⟩, .string ⟨#[]⟩, .slice none 0 0] 39)) w.heap.size 39 #[.int .i64 m.kind, .int .i64 m.queue, .int .i64 m.due, .int .i64 m.retry, .int .i64 m.ref, .int .i64 m.born, .string m.topic, .string m.tag, .string m.body, .slice A m.keys.length c] := heap_alloc2_old w _ _
  have e3 : Blk ((w.alloc (.cells #[.int .i64 m.kind, .int .i64 m.queue, .int .i64 m.due, .int .i64 m.retry, .int .i64 m.ref, .int .i64 m.born, .string m.topic, .string m.tag, .string m.body, .slice A m.keys.length c] 39)).alloc (.cells #[.int .i64 0, .int .i64 0, .int .i64 0, .int .i64 0, .int .i64 0, .int .i64 0, .string ⟨#[]⟩, .string ⟨#[]⟩, .string ⟨#[]⟩, .slice none 0 0] 39)) (w.heap.size + 1) 39 #[.int .i64 0, .int .i64 0, .int .i64 0, .int .i64 0, .int .i64 0, .int .i64 0, .string ⟨#[]⟩, .string ⟨#[]⟩, .string ⟨#[]⟩, .slice none 0 0] := heap_alloc2_new w _ _
  go_enter Try.func21, Try.ntmps21
  go_wp2_with (first
    | (go_at_call 43; refine (group_any _ _).mono ?_; rintro e w1 ⟨rfl, hb⟩
       have HB1 : Below w.heap.size w w1 := bstep (by repeat (first | exact HB | apply balloc)) hb
       have b2 := e2.later hb
       have b3 := e3.later hb
       have hc2 := b2.cell)
    | (go_at_call 44; refine (right_any m _ _ _ (HL.out.below HB1) hn HS.out).mono ?_; rintro e w2 ⟨rfl, hb⟩
       have HB2 : Below w.heap.size w w2 := bstep HB1 hb
       have d2 := b2.later hb
       have d3 := b3.later hb
       clear hc2
       have hc2 := d2.cell)
    | (go_at_call 45; refine (time_any (some ⟨w2.heap.size, 0, none⟩) 2 [id, now] _ (ints_new w2 [id, now] 3 (by simp)) (by simp)).mono ?_; rintro e w' ⟨rfl, rfl⟩
       have hA : Below w2.heap.size w2 (w2.alloc (.cells #[.int .i64 id, .int .i64 now] 3)) := balloc (Below.refl _ _)
       have HB3 : Below w.heap.size w (w2.alloc (.cells #[.int .i64 id, .int .i64 now] 3)) := bstep HB2 hA
       have d4 := d3.later hA
       have d5 := d2.later hA
       clear hc2
       have hc2 := d5.cell)
    | (refine ev_row (ty := 39) (x := .tmp 8) (y := .tmp 37) (g := w.heap.size + 1) (cells := #[.int .i64 0, .int .i64 0, .int .i64 0, .int .i64 0, .int .i64 0, .int .i64 0, .string ⟨#[]⟩, .string ⟨#[]⟩, .string ⟨#[]⟩, .slice none 0 0]) ?_ ?_ ?_ ?_ ?_ ?_ ?_ d4 ?_ ?_; (rfl); (rfl); (rfl); (rfl); (rfl); (simp [Value.oneCell']); (kernel_rfl); (rfl)
       intro w9 b9 hbt
       have HB9 : Below w.heap.size w w9 := HB3.trans (hbt.below (by omega))
       have hc9 := b9.cell))
  refine bodyPost_ret (v := .tuple #[.agg #[.int .i64 0, .int .i64 0, .int .i64 0, .int .i64 0, .int .i64 0, .int .i64 0, .string ⟨#[]⟩, .string ⟨#[]⟩, .string ⟨#[]⟩, .slice none 0 0], .int .i64 1]) ?_ rfl ⟨⟨_, by rw [HR.out], by rw [HR.out]; exact ⟨none, 0, rfl, Nat.le_refl _, World.ownsRow_nil _ _ _ _⟩⟩, HB9⟩
  simp [results, Try.results21, go_sem, hc9]


set_option maxHeartbeats 8000000 in
theorem again_t3 (m : Msg) (A : Option Addr) (c : Nat) (id : Int) (g : ByteArray) (now : Int) (w : World) (hl : Strs w A m.keys) (hn : m.keys.length * 16 ≤ 140737488355328) (hs : ∀ s ∈ m.keys, s.size ≤ 9223372036854775807) (hgz : g.size ≤ 9223372036854775800)
    (f0 : groupL (L g) = true) (f1 : rightM m = true) (k1 : (m.kind == 1) = false) (k3 : (m.kind == 3) = true) (n1 : (m.kind != 1) = true) (n3 : (m.kind != 3) = false) (f2 : allI okT [id, now] = false) :
    Calls Try.prog 21 #[.agg #[.int .i64 m.kind, .int .i64 m.queue, .int .i64 m.due, .int .i64 m.retry, .int .i64 m.ref, .int .i64 m.born, .string m.topic, .string m.tag, .string m.body, .slice A m.keys.length c], .int .i64 id, .string g, .int .i64 now] w fun e w' => (∃ v, e = .returned (.tuple #[v, .int .i64 (againM m id g now).2]) ∧ OwnMsg w.heap.size w' v (againM m id g now).1) ∧ Below w.heap.size w w' := by
  have HR := Lib.hid (show againM m id g now = (zeroM, 1) by simp only [againM, mayM, f0, f1, f2, k1, k3]; rfl)
  have HL := Lib.hid hl
  have HS := Lib.hid hs
  clear hl hs
  have HB := Below.refl w.heap.size w
  have e2 : Blk ((w.alloc (.cells #[.int .i64 m.kind, .int .i64 m.queue, .int .i64 m.due, .int .i64 m.retry, .int .i64 m.ref, .int .i64 m.born, .string m.topic, .string m.tag, .string m.body, .slice A m.keys.length c] 39)).alloc (.cells #[.int .i64 0, .int .i64 0, .int .i64 0, .int .i64 0, .int .i64 0, .int .i64 0, .string ⟨#[]⟩, .string ⟨#[]⟩, .string ⟨#[]⟩, .slice none 0 0] 39)) w.heap.size 39 #[.int .i64 m.kind, .int .i64 m.queue, .int .i64 m.due, .int .i64 m.retry, .int .i64 m.ref, .int .i64 m.born, .string m.topic, .string m.tag, .string m.body, .slice A m.keys.length c] := heap_alloc2_old w _ _
  have e3 : Blk ((w.alloc (.cells #[.int .i64 m.kind, .int .i64 m.queue, .int .i64 m.due, .int .i64 m.retry, .int .i64 m.ref, .int .i64 m.born, .string m.topic, .string m.tag, .string m.body, .slice A m.keys.length c] 39)).alloc (.cells #[.int .i64 0, .int .i64 0, .int .i64 0, .int .i64 0, .int .i64 0, .int .i64 0, .string ⟨#[]⟩, .string ⟨#[]⟩, .string ⟨#[]⟩, .slice none 0 0] 39)) (w.heap.size + 1) 39 #[.int .i64 0, .int .i64 0, .int .i64 0, .int .i64 0, .int .i64 0, .int .i64 0, .string ⟨#[]⟩, .string ⟨#[]⟩, .string ⟨#[]⟩, .slice none 0 0] := heap_alloc2_new w _ _
  go_enter Try.func21, Try.ntmps21
  go_wp2_with (first
    | (go_at_call 43; refine (group_any _ _).mono ?_; rintro e w1 ⟨rfl, hb⟩
       have HB1 : Below w.heap.size w w1 := bstep (by repeat (first | exact HB | apply balloc)) hb
       have b2 := e2.later hb
       have b3 := e3.later hb
       have hc2 := b2.cell)
    | (go_at_call 44; refine (right_any m _ _ _ (HL.out.below HB1) hn HS.out).mono ?_; rintro e w2 ⟨rfl, hb⟩
       have HB2 : Below w.heap.size w w2 := bstep HB1 hb
       have d2 := b2.later hb
       have d3 := b3.later hb
       clear hc2
       have hc2 := d2.cell)
    | (go_at_call 45; refine (time_any (some ⟨w2.heap.size, 0, none⟩) 2 [id, now] _ (ints_new w2 [id, now] 3 (by simp)) (by simp)).mono ?_; rintro e w' ⟨rfl, rfl⟩
       have hA : Below w2.heap.size w2 (w2.alloc (.cells #[.int .i64 id, .int .i64 now] 3)) := balloc (Below.refl _ _)
       have HB3 : Below w.heap.size w (w2.alloc (.cells #[.int .i64 id, .int .i64 now] 3)) := bstep HB2 hA
       have d4 := d3.later hA
       have d5 := d2.later hA
       clear hc2
       have hc2 := d5.cell)
    | (refine ev_row (ty := 39) (x := .tmp 8) (y := .tmp 37) (g := w.heap.size + 1) (cells := #[.int .i64 0, .int .i64 0, .int .i64 0, .int .i64 0, .int .i64 0, .int .i64 0, .string ⟨#[]⟩, .string ⟨#[]⟩, .string ⟨#[]⟩, .slice none 0 0]) ?_ ?_ ?_ ?_ ?_ ?_ ?_ d4 ?_ ?_; (rfl); (rfl); (rfl); (rfl); (rfl); (simp [Value.oneCell']); (kernel_rfl); (rfl)
       intro w9 b9 hbt
       have HB9 : Below w.heap.size w w9 := HB3.trans (hbt.below (by omega))
       have hc9 := b9.cell))
  refine bodyPost_ret (v := .tuple #[.agg #[.int .i64 0, .int .i64 0, .int .i64 0, .int .i64 0, .int .i64 0, .int .i64 0, .string ⟨#[]⟩, .string ⟨#[]⟩, .string ⟨#[]⟩, .slice none 0 0], .int .i64 1]) ?_ rfl ⟨⟨_, by rw [HR.out], by rw [HR.out]; exact ⟨none, 0, rfl, Nat.le_refl _, World.ownsRow_nil _ _ _ _⟩⟩, HB9⟩
  simp [results, Try.results21, go_sem, hc9]

end Go.Proofs.Ytnlpohcnlmdocaa
