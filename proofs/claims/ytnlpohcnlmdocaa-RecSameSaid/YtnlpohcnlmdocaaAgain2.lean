/- level.Again, where a message is given up. -/
import Derived.Test.YtnlpohcnlmdocaaAgain
namespace Go.Proofs.Ytnlpohcnlmdocaa
open Go.RowKit Go.Shelf
set_option linter.unusedSimpArgs false
set_option linter.unusedVariables false


set_option maxHeartbeats 8000000 in
theorem again_d1 (m : Msg) (A : Option Addr) (c : Nat) (id : Int) (g : ByteArray) (now : Int) (w : World) (hl : Strs w A m.keys) (hn : m.keys.length * 16 ≤ 140737488355328) (hs : ∀ s ∈ m.keys, s.size ≤ 9223372036854775807) (hgz : g.size ≤ 9223372036854775800)
    (f0 : groupL (L g) = true) (f1 : rightM m = true) (k1 : (m.kind == 1) = true) (k3 : (m.kind == 3) = false) (n1 : (m.kind != 1) = false) (n3 : (m.kind != 3) = true) (f2 : allI okT [id, now] = true) (f3 : decide (4 ≤ m.retry) = true) :
    Calls Try.prog 21 #[.agg #[.int .i64 m.kind, .int .i64 m.queue, .int .i64 m.due, .int .i64 m.retry, .int .i64 m.ref, .int .i64 m.born, .string m.topic, .string m.tag, .string m.body, .slice A m.keys.length c], .int .i64 id, .string g, .int .i64 now] w fun e w' => (∃ v, e = .returned (.tuple #[v, .int .i64 (againM m id g now).2]) ∧ OwnMsg w.heap.size w' v (againM m id g now).1) ∧ Below w.heap.size w w' := by
  have HR := Lib.hid (show againM m id g now = (deadM m g now, 0) by simp only [againM, mayM, f0, f1, f2, f3, k1, k3]; rfl)
  have HL := Lib.hid hl
  have HS := Lib.hid hs
  clear hl hs
  have HB := Below.refl w.heap.size w
  have e2 : Blk ((w.alloc (.cells #[.int .i64 m.kind, .int .i64 m.queue, .int .i64 m.due, .int .i64 m.retry, .int .i64 m.ref, .int .i64 m.born, .string m.topic, .string m.tag, .string m.body, .slice A m.keys.length c] 39)).alloc (.cells #[.int .i64 0, .int .i64 0, .int .i64 0, .int .i64 0, .int .i64 0, .int .i64 0, .string ⟨#[]⟩, .string ⟨#[]⟩, .string ⟨#[]⟩, .slice none 0 0] 39)) w.heap.size 39 #[.int .i64 m.kind, .int .i64 m.queue, .int .i64 m.due, .int .i64 m.retry, .int .i64 m.ref, .int .i64 m.born, .string m.topic, .string m.tag, .string m.body, .slice A m.keys.length c] := heap_alloc2_old w _ _
  have e3 : Blk ((w.alloc (.cells #[.int .i64 m.kind, .int .i64 m.queue, .int .i64 m.due, .int .i64 m.retry, .int .i64 m.ref, .int .i64 m.born, .string m.topic, .string m.tag, .string m.body, .slice A m.keys.length c] 39)).alloc (.cells #[.int .i64 0, .int .i64 0, .int .i64 0, .int .i64 0, .int .i64 0, .int .i64 0, .string ⟨#[]⟩, .string ⟨#[]⟩, .string ⟨#[]⟩, .slice none 0 0] 39)) (w.heap.size + 1) 39 #[.int .i64 0, .int .i64 0, .int .i64 0, .int .i64 0, .int .i64 0, .int .i64 0, .string ⟨#[]⟩, .string ⟨#[]⟩, .string ⟨#[]⟩, .slice none 0 0] := heap_alloc2_new w _ _
  go_enter Try.func21, Try.ntmps21
  have hf3 := f3
  clear f3
  go_wp2_with (first
    | (go_at_call 43; refine (group_any _ _).mono ?_; rintro e w1 ⟨rfl, hb⟩
       have HB1 : Below w.heap.size w w1 := bstep (by repeat (first | exact HB | apply balloc)) hb
       have b2 := e2.later hb
       have b3 := e3.later hb
       have hc2 := b2.cell)
    | (go_at_call 44; refine (right_any m _ _ _ (HL.out.below HB1) hn HS.out).mono ?_; rintro e w2 ⟨rfl, hb⟩
       have HB2 : Below w.heap.size w w2 := bstep HB1 hb
       have d2 := b2.later hb
       have d3 := b3.later hb
       clear hc2
       have hc2 := d2.cell)
    | (go_at_call 45; refine (time_any (some ⟨w2.heap.size, 0, none⟩) 2 [id, now] _ (ints_new w2 [id, now] 3 (by simp)) (by simp)).mono ?_; rintro e w' ⟨rfl, rfl⟩
       have hA : Below w2.heap.size w2 (w2.alloc (.cells #[.int .i64 id, .int .i64 now] 3)) := balloc (Below.refl _ _)
       have HB3 : Below w.heap.size w (w2.alloc (.cells #[.int .i64 id, .int .i64 now] 3)) := bstep HB2 hA
       have d4 := d3.later hA
       have d5 := d2.later hA
       clear hc2
       have hc2 := d5.cell)
    | (go_at_call 32; refine (copy_any m _ _ _ (HL.out.below HB3) hn).mono ?_; rintro e w4 ⟨⟨v, rfl, A', c', rfl, hcc, hrow⟩, hb⟩
       have HB4 : Below w.heap.size w w4 := bstep HB3 hb
       have HG4 : w.heap.size + 1 < w4.heap.size := (d4.later hb).lt
       have HG0 : w.heap.size < w4.heap.size := (d5.later hb).lt
       have hrow4 := Lib.hid (show w4.ownsRow w.heap.size 9 1 (.slice A' m.keys.length c') m.keys.length (m.keys.map Value.string) from ownsRow_base_a hrow (HB3.size))
       clear hrow
       have f3 := d4.later hb
       have f2 := d5.later hb
       clear hc2
       have hc2 := f2.cell)
    | (go_at_call 46; refine (dead_any _ _ (by omega)).mono ?_; rintro e w5 ⟨rfl, hb⟩
       have hA5 : Below w4.heap.size w4 (w4.alloc (.cells #[.int .i64 m.kind, .int .i64 0, .int .i64 m.due, .int .i64 m.retry, .int .i64 m.ref, .int .i64 now, .string m.topic, .string m.tag, .string m.body, .slice A' m.keys.length c'] 39)) := balloc (Below.refl _ _)
       have HB5 : Below w.heap.size w w5 := bstep (bstep HB4 hA5) hb
       have hrow5 := Lib.hid (ownsRow_later (ownsRow_later hrow4.out hA5) hb)
       have g3 := (f3.later hA5).later hb
       have g10 : Blk w5 w4.heap.size 39 #[.int .i64 m.kind, .int .i64 0, .int .i64 m.due, .int .i64 m.retry, .int .i64 m.ref, .int .i64 now, .string m.topic, .string m.tag, .string m.body, .slice A' m.keys.length c'] := (Blk.new w4 _ _).later hb
       clear hc2
       have hc10 := g10.cell)
    | (refine ev_field (ty := 3) (x := .tmp 48) (y := .const (.int .i64 1)) (g := w4.heap.size) (i := 0) (v := .int .i64 1) ?_ ?_ ?_ ?_ ?_ ?_ ?_ g10 ?_ ?_; (rfl); (rfl); (rfl); (rfl); (rfl); (rfl); (kernel_rfl); (simp)
       intro w6 u1 hbt
       replace u1 : Blk w6 w4.heap.size 39 #[.int .i64 1, .int .i64 0, .int .i64 m.due, .int .i64 m.retry, .int .i64 m.ref, .int .i64 now, .string m.topic, .string m.tag, .string m.body, .slice A' m.keys.length c'] := u1
       have HB6 : Below w.heap.size w w6 := HB5.trans (hbt.below (by omega))
       have hrow6 := Lib.hid (ownsRow_but hrow5.out hbt g10 (by decide))
       have k1 := g3.but hbt (by omega)
       clear hc10
       have hc10 := u1.cell)
    | (refine ev_field (ty := 9) (x := .tmp 49) (y := .tmp 47) (g := w4.heap.size) (i := 6) (v := .string (ownB (B deadL) g)) ?_ ?_ ?_ ?_ ?_ ?_ ?_ u1 ?_ ?_; (rfl); (rfl); (rfl); (rfl); (rfl); (rfl); (kernel_rfl); (simp)
       intro w7 u2 hbt
       replace u2 : Blk w7 w4.heap.size 39 #[.int .i64 1, .int .i64 0, .int .i64 m.due, .int .i64 m.retry, .int .i64 m.ref, .int .i64 now, .string (ownB (B deadL) g), .string m.tag, .string m.body, .slice A' m.keys.length c'] := u2
       have HB7 : Below w.heap.size w w7 := HB6.trans (hbt.below (by omega))
       have hrow7 := Lib.hid (ownsRow_but hrow6.out hbt u1 (by decide))
       have k2 := k1.but hbt (by omega)
       clear hc10
       have hc10 := u2.cell)
    | (refine ev_field (ty := 3) (x := .tmp 50) (y := .const (.int .i64 0)) (g := w4.heap.size) (i := 2) (v := .int .i64 0) ?_ ?_ ?_ ?_ ?_ ?_ ?_ u2 ?_ ?_; (rfl); (rfl); (rfl); (rfl); (rfl); (rfl); (kernel_rfl); (simp)
       intro w8 u3 hbt
       replace u3 : Blk w8 w4.heap.size 39 #[.int .i64 1, .int .i64 0, .int .i64 0, .int .i64 m.retry, .int .i64 m.ref, .int .i64 now, .string (ownB (B deadL) g), .string m.tag, .string m.body, .slice A' m.keys.length c'] := u3
       have HB8 : Below w.heap.size w w8 := HB7.trans (hbt.below (by omega))
       have hrow8 := Lib.hid (ownsRow_but hrow7.out hbt u2 (by decide))
       have k3 := k2.but hbt (by omega)
       clear hc10
       have hc10 := u3.cell)
    | (refine ev_field (ty := 3) (x := .tmp 51) (y := .const (.int .i64 0)) (g := w4.heap.size) (i := 4) (v := .int .i64 0) ?_ ?_ ?_ ?_ ?_ ?_ ?_ u3 ?_ ?_; (rfl); (rfl); (rfl); (rfl); (rfl); (rfl); (kernel_rfl); (simp)
       intro w9 u4 hbt
       replace u4 : Blk w9 w4.heap.size 39 #[.int .i64 1, .int .i64 0, .int .i64 0, .int .i64 m.retry, .int .i64 0, .int .i64 now, .string (ownB (B deadL) g), .string m.tag, .string m.body, .slice A' m.keys.length c'] := u4
       have HB9 : Below w.heap.size w w9 := HB8.trans (hbt.below (by omega))
       have hrow9 := Lib.hid (ownsRow_but hrow8.out hbt u3 (by decide))
       have k4 := k3.but hbt (by omega)
       clear hc10
       have hc10 := u4.cell)
    | (refine ev_row (ty := 39) (x := .tmp 8) (y := .tmp 52) (g := w.heap.size + 1) (cells := #[.int .i64 1, .int .i64 0, .int .i64 0, .int .i64 m.retry, .int .i64 0, .int .i64 now, .string (ownB (B deadL) g), .string m.tag, .string m.body, .slice A' m.keys.length c']) ?_ ?_ ?_ ?_ ?_ ?_ ?_ k4 ?_ ?_; (rfl); (rfl); (rfl); (rfl); (rfl); (simp [Value.oneCell']); (kernel_rfl); (rfl)
       intro w99 b99 hbt
       have HB99 : Below w.heap.size w w99 := HB9.trans (hbt.below (by omega))
       have hrow99 := ownsRow_but hrow9.out hbt k4 (by decide)
       have hc99 := b99.cell))
  refine bodyPost_ret (v := .tuple #[.agg #[.int .i64 1, .int .i64 0, .int .i64 0, .int .i64 m.retry, .int .i64 0, .int .i64 now, .string (ownB (B deadL) g), .string m.tag, .string m.body, .slice A' m.keys.length c'], .int .i64 0]) ?_ rfl ⟨⟨_, by rw [HR.out], by rw [HR.out]; exact ⟨A', c', rfl, hcc, hrow99⟩⟩, HB99⟩
  simp [results, Try.results21, go_sem, hc99]


set_option maxHeartbeats 8000000 in
theorem again_d3 (m : Msg) (A : Option Addr) (c : Nat) (id : Int) (g : ByteArray) (now : Int) (w : World) (hl : Strs w A m.keys) (hn : m.keys.length * 16 ≤ 140737488355328) (hs : ∀ s ∈ m.keys, s.size ≤ 9223372036854775807) (hgz : g.size ≤ 9223372036854775800)
    (f0 : groupL (L g) = true) (f1 : rightM m = true) (k1 : (m.kind == 1) = false) (k3 : (m.kind == 3) = true) (n1 : (m.kind != 1) = true) (n3 : (m.kind != 3) = false) (f2 : allI okT [id, now] = true) (f3 : decide (4 ≤ m.retry) = true) :
    Calls Try.prog 21 #[.agg #[.int .i64 m.kind, .int .i64 m.queue, .int .i64 m.due, .int .i64 m.retry, .int .i64 m.ref, .int .i64 m.born, .string m.topic, .string m.tag, .string m.body, .slice A m.keys.length c], .int .i64 id, .string g, .int .i64 now] w fun e w' => (∃ v, e = .returned (.tuple #[v, .int .i64 (againM m id g now).2]) ∧ OwnMsg w.heap.size w' v (againM m id g now).1) ∧ Below w.heap.size w w' := by
  have HR := Lib.hid (show againM m id g now = (deadM m g now, 0) by simp only [againM, mayM, f0, f1, f2, f3, k1, k3]; rfl)
  have HL := Lib.hid hl
  have HS := Lib.hid hs
  clear hl hs
  have HB := Below.refl w.heap.size w
  have e2 : Blk ((w.alloc (.cells #[.int .i64 m.kind, .int .i64 m.queue, .int .i64 m.due, .int .i64 m.retry, .int .i64 m.ref, .int .i64 m.born, .string m.topic, .string m.tag, .string m.body, .slice A m.keys.length c] 39)).alloc (.cells #[.int .i64 0, .int .i64 0, .int .i64 0, .int .i64 0, .int .i64 0, .int .i64 0, .string ⟨#[]⟩, .string ⟨#[]⟩, .string ⟨#[]⟩, .slice none 0 0] 39)) w.heap.size 39 #[.int .i64 m.kind, .int .i64 m.queue, .int .i64 m.due, .int .i64 m.retry, .int .i64 m.ref, .int .i64 m.born, .string m.topic, .string m.tag, .string m.body, .slice A m.keys.length c] := heap_alloc2_old w _ _
  have e3 : Blk ((w.alloc (.cells #[.int .i64 m.kind, .int .i64 m.queue, .int .i64 m.due, .int .i64 m.retry, .int .i64 m.ref, .int .i64 m.born, .string m.topic, .string m.tag, .string m.body, .slice A m.keys.length c] 39)).alloc (.cells #[.int .i64 0, .int .i64 0, .int .i64 0, .int .i64 0, .int .i64 0, .int .i64 0, .string ⟨#[]⟩, .string ⟨#[]⟩, .string ⟨#[]⟩, .slice none 0 0] 39)) (w.heap.size + 1) 39 #[.int .i64 0, .int .i64 0, .int .i64 0, .int .i64 0, .int .i64 0, .int .i64 0, .string ⟨#[]⟩, .string ⟨#[]⟩, .string ⟨#[]⟩, .slice none 0 0] := heap_alloc2_new w _ _
  go_enter Try.func21, Try.ntmps21
  have hf3 := f3
  clear f3
  go_wp2_with (first
    | (go_at_call 43; refine (group_any _ _).mono ?_; rintro e w1 ⟨rfl, hb⟩
       have HB1 : Below w.heap.size w w1 := bstep (by repeat (first | exact HB | apply balloc)) hb
       have b2 := e2.later hb
       have b3 := e3.later hb
       have hc2 := b2.cell)
    | (go_at_call 44; refine (right_any m _ _ _ (HL.out.below HB1) hn HS.out).mono ?_; rintro e w2 ⟨rfl, hb⟩
       have HB2 : Below w.heap.size w w2 := bstep HB1 hb
       have d2 := b2.later hb
       have d3 := b3.later hb
       clear hc2
       have hc2 := d2.cell)
    | (go_at_call 45; refine (time_any (some ⟨w2.heap.size, 0, none⟩) 2 [id, now] _ (ints_new w2 [id, now] 3 (by simp)) (by simp)).mono ?_; rintro e w' ⟨rfl, rfl⟩
       have hA : Below w2.heap.size w2 (w2.alloc (.cells #[.int .i64 id, .int .i64 now] 3)) := balloc (Below.refl _ _)
       have HB3 : Below w.heap.size w (w2.alloc (.cells #[.int .i64 id, .int .i64 now] 3)) := bstep HB2 hA
       have d4 := d3.later hA
       have d5 := d2.later hA
       clear hc2
       have hc2 := d5.cell)
    | (go_at_call 32; refine (copy_any m _ _ _ (HL.out.below HB3) hn).mono ?_; rintro e w4 ⟨⟨v, rfl, A', c', rfl, hcc, hrow⟩, hb⟩
       have HB4 : Below w.heap.size w w4 := bstep HB3 hb
       have HG4 : w.heap.size + 1 < w4.heap.size := (d4.later hb).lt
       have HG0 : w.heap.size < w4.heap.size := (d5.later hb).lt
       have hrow4 := Lib.hid (show w4.ownsRow w.heap.size 9 1 (.slice A' m.keys.length c') m.keys.length (m.keys.map Value.string) from ownsRow_base_a hrow (HB3.size))
       clear hrow
       have f3 := d4.later hb
       have f2 := d5.later hb
       clear hc2
       have hc2 := f2.cell)
    | (go_at_call 46; refine (dead_any _ _ (by omega)).mono ?_; rintro e w5 ⟨rfl, hb⟩
       have hA5 : Below w4.heap.size w4 (w4.alloc (.cells #[.int .i64 m.kind, .int .i64 0, .int .i64 m.due, .int .i64 m.retry, .int .i64 m.ref, .int .i64 now, .string m.topic, .string m.tag, .string m.body, .slice A' m.keys.length c'] 39)) := balloc (Below.refl _ _)
       have HB5 : Below w.heap.size w w5 := bstep (bstep HB4 hA5) hb
       have hrow5 := Lib.hid (ownsRow_later (ownsRow_later hrow4.out hA5) hb)
       have g3 := (f3.later hA5).later hb
       have g10 : Blk w5 w4.heap.size 39 #[.int .i64 m.kind, .int .i64 0, .int .i64 m.due, .int .i64 m.retry, .int .i64 m.ref, .int .i64 now, .string m.topic, .string m.tag, .string m.body, .slice A' m.keys.length c'] := (Blk.new w4 _ _).later hb
       clear hc2
       have hc10 := g10.cell)
    | (refine ev_field (ty := 3) (x := .tmp 48) (y := .const (.int .i64 1)) (g := w4.heap.size) (i := 0) (v := .int .i64 1) ?_ ?_ ?_ ?_ ?_ ?_ ?_ g10 ?_ ?_; (rfl); (rfl); (rfl); (rfl); (rfl); (rfl); (kernel_rfl); (simp)
       intro w6 u1 hbt
       replace u1 : Blk w6 w4.heap.size 39 #[.int .i64 1, .int .i64 0, .int .i64 m.due, .int .i64 m.retry, .int .i64 m.ref, .int .i64 now, .string m.topic, .string m.tag, .string m.body, .slice A' m.keys.length c'] := u1
       have HB6 : Below w.heap.size w w6 := HB5.trans (hbt.below (by omega))
       have hrow6 := Lib.hid (ownsRow_but hrow5.out hbt g10 (by decide))
       have k1 := g3.but hbt (by omega)
       clear hc10
       have hc10 := u1.cell)
    | (refine ev_field (ty := 9) (x := .tmp 49) (y := .tmp 47) (g := w4.heap.size) (i := 6) (v := .string (ownB (B deadL) g)) ?_ ?_ ?_ ?_ ?_ ?_ ?_ u1 ?_ ?_; (rfl); (rfl); (rfl); (rfl); (rfl); (rfl); (kernel_rfl); (simp)
       intro w7 u2 hbt
       replace u2 : Blk w7 w4.heap.size 39 #[.int .i64 1, .int .i64 0, .int .i64 m.due, .int .i64 m.retry, .int .i64 m.ref, .int .i64 now, .string (ownB (B deadL) g), .string m.tag, .string m.body, .slice A' m.keys.length c'] := u2
       have HB7 : Below w.heap.size w w7 := HB6.trans (hbt.below (by omega))
       have hrow7 := Lib.hid (ownsRow_but hrow6.out hbt u1 (by decide))
       have k2 := k1.but hbt (by omega)
       clear hc10
       have hc10 := u2.cell)
    | (refine ev_field (ty := 3) (x := .tmp 50) (y := .const (.int .i64 0)) (g := w4.heap.size) (i := 2) (v := .int .i64 0) ?_ ?_ ?_ ?_ ?_ ?_ ?_ u2 ?_ ?_; (rfl); (rfl); (rfl); (rfl); (rfl); (rfl); (kernel_rfl); (simp)
       intro w8 u3 hbt
       replace u3 : Blk w8 w4.heap.size 39 #[.int .i64 1, .int .i64 0, .int .i64 0, .int .i64 m.retry, .int .i64 m.ref, .int .i64 now, .string (ownB (B deadL) g), .string m.tag, .string m.body, .slice A' m.keys.length c'] := u3
       have HB8 : Below w.heap.size w w8 := HB7.trans (hbt.below (by omega))
       have hrow8 := Lib.hid (ownsRow_but hrow7.out hbt u2 (by decide))
       have k3 := k2.but hbt (by omega)
       clear hc10
       have hc10 := u3.cell)
    | (refine ev_field (ty := 3) (x := .tmp 51) (y := .const (.int .i64 0)) (g := w4.heap.size) (i := 4) (v := .int .i64 0) ?_ ?_ ?_ ?_ ?_ ?_ ?_ u3 ?_ ?_; (rfl); (rfl); (rfl); (rfl); (rfl); (rfl); (kernel_rfl); (simp)
       intro w9 u4 hbt
       replace u4 : Blk w9 w4.heap.size 39 #[.int .i64 1, .int .i64 0, .int .i64 0, .int .i64 m.retry, .int .i64 0, .int .i64 now, .string (ownB (B deadL) g), .string m.tag, .string m.body, .slice A' m.keys.length c'] := u4
       have HB9 : Below w.heap.size w w9 := HB8.trans (hbt.below (by omega))
       have hrow9 := Lib.hid (ownsRow_but hrow8.out hbt u3 (by decide))
       have k4 := k3.but hbt (by omega)
       clear hc10
       have hc10 := u4.cell)
    | (refine ev_row (ty := 39) (x := .tmp 8) (y := .tmp 52) (g := w.heap.size + 1) (cells := #[.int .i64 1, .int .i64 0, .int .i64 0, .int .i64 m.retry, .int .i64 0, .int .i64 now, .string (ownB (B deadL) g), .string m.tag, .string m.body, .slice A' m.keys.length c']) ?_ ?_ ?_ ?_ ?_ ?_ ?_ k4 ?_ ?_; (rfl); (rfl); (rfl); (rfl); (rfl); (simp [Value.oneCell']); (kernel_rfl); (rfl)
       intro w99 b99 hbt
       have HB99 : Below w.heap.size w w99 := HB9.trans (hbt.below (by omega))
       have hrow99 := ownsRow_but hrow9.out hbt k4 (by decide)
       have hc99 := b99.cell))
  refine bodyPost_ret (v := .tuple #[.agg #[.int .i64 1, .int .i64 0, .int .i64 0, .int .i64 m.retry, .int .i64 0, .int .i64 now, .string (ownB (B deadL) g), .string m.tag, .string m.body, .slice A' m.keys.length c'], .int .i64 0]) ?_ rfl ⟨⟨_, by rw [HR.out], by rw [HR.out]; exact ⟨A', c', rfl, hcc, hrow99⟩⟩, HB99⟩
  simp [results, Try.results21, go_sem, hc99]

end Go.Proofs.Ytnlpohcnlmdocaa
