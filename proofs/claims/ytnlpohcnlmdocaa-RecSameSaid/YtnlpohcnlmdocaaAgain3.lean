/- level.Again, where a message comes again; and all ways joined. -/
import Derived.Test.YtnlpohcnlmdocaaAgain2
namespace Go.Proofs.Ytnlpohcnlmdocaa
open Go.RowKit Go.Shelf
set_option linter.unusedSimpArgs false
set_option linter.unusedVariables false


set_option maxRecDepth 100000 in
set_option maxHeartbeats 8000000 in
theorem again_r1x (m : Msg) (A : Option Addr) (c : Nat) (id : Int) (g : ByteArray) (now : Int) (w : World) (hl : Strs w A m.keys) (hn : m.keys.length * 16 ≤ 140737488355328) (hs : ∀ s ∈ m.keys, s.size ≤ 9223372036854775807) (hgz : g.size ≤ 9223372036854775800)
    (f0 : groupL (L g) = true) (f1 : rightM m = true) (k1 : (m.kind == 1) = true) (k3 : (m.kind == 3) = false) (n1 : (m.kind != 1) = false) (n3 : (m.kind != 3) = true) (f2 : allI okT [id, now] = true) (hlo : 0 ≤ m.retry) (hhi : m.retry < 4) (hid : 0 ≤ now) (hnw : now ≤ 1099511626776) (f3 : decide (4 ≤ m.retry) = false) :
    Calls Try.prog 21 #[.agg #[.int .i64 m.kind, .int .i64 m.queue, .int .i64 m.due, .int .i64 m.retry, .int .i64 m.ref, .int .i64 m.born, .string m.topic, .string m.tag, .string m.body, .slice A m.keys.length c], .int .i64 id, .string g, .int .i64 now] w fun e w' => (∃ v, e = .returned (.tuple #[v, .int .i64 (againM m id g now).2]) ∧ OwnMsg w.heap.size w' v (againM m id g now).1) ∧ Below w.heap.size w w' := by
  have HR := Lib.hid (show againM m id g now = (retryM m id g now, 0) by simp only [againM, mayM, f0, f1, f2, f3, k1, k3]; rfl)
  have HL := Lib.hid hl
  have HS := Lib.hid hs
  clear hl hs
  have HB := Below.refl w.heap.size w
  have e2 : Blk ((w.alloc (.cells #[.int .i64 m.kind, .int .i64 m.queue, .int .i64 m.due, .int .i64 m.retry, .int .i64 m.ref, .int .i64 m.born, .string m.topic, .string m.tag, .string m.body, .slice A m.keys.length c] 39)).alloc (.cells #[.int .i64 0, .int .i64 0, .int .i64 0, .int .i64 0, .int .i64 0, .int .i64 0, .string ⟨#[]⟩, .string ⟨#[]⟩, .string ⟨#[]⟩, .slice none 0 0] 39)) w.heap.size 39 #[.int .i64 m.kind, .int .i64 m.queue, .int .i64 m.due, .int .i64 m.retry, .int .i64 m.ref, .int .i64 m.born, .string m.topic, .string m.tag, .string m.body, .slice A m.keys.length c] := heap_alloc2_old w _ _
  have e3 : Blk ((w.alloc (.cells #[.int .i64 m.kind, .int .i64 m.queue, .int .i64 m.due, .int .i64 m.retry, .int .i64 m.ref, .int .i64 m.born, .string m.topic, .string m.tag, .string m.body, .slice A m.keys.length c] 39)).alloc (.cells #[.int .i64 0, .int .i64 0, .int .i64 0, .int .i64 0, .int .i64 0, .int .i64 0, .string ⟨#[]⟩, .string ⟨#[]⟩, .string ⟨#[]⟩, .slice none 0 0] 39)) (w.heap.size + 1) 39 #[.int .i64 0, .int .i64 0, .int .i64 0, .int .i64 0, .int .i64 0, .int .i64 0, .string ⟨#[]⟩, .string ⟨#[]⟩, .string ⟨#[]⟩, .slice none 0 0] := heap_alloc2_new w _ _
  go_enter Try.func21, Try.ntmps21
  have hf3 := f3
  clear f3
  obtain ⟨hd0, hd1⟩ : 0 ≤ delayN (m.retry + 1) ∧ delayN (m.retry + 1) ≤ 16 := by unfold delayN; omega
  have hw : IntKind.i64.wrap (now + delayN (m.retry + 1)) = now + delayN (m.retry + 1) := IntWalk.i64_in _ (by omega)
  have HW := Lib.hid hw
  clear hw
  go_wp2_with (first
    | (go_at_call 43; refine (group_any _ _).mono ?_; rintro e w1 ⟨rfl, hb⟩
       have HB1 : Below w.heap.size w w1 := bstep (by repeat (first | exact HB | apply balloc)) hb
       have b2 := e2.later hb
       have b3 := e3.later hb
       have hc2 := b2.cell)
    | (go_at_call 44; refine (right_any m _ _ _ (HL.out.below HB1) hn HS.out).mono ?_; rintro e w2 ⟨rfl, hb⟩
       have HB2 : Below w.heap.size w w2 := bstep HB1 hb
       have d2 := b2.later hb
       have d3 := b3.later hb
       clear hc2
       have hc2 := d2.cell)
    | (go_at_call 45; refine (time_any (some ⟨w2.heap.size, 0, none⟩) 2 [id, now] _ (ints_new w2 [id, now] 3 (by simp)) (by simp)).mono ?_; rintro e w' ⟨rfl, rfl⟩
       have hA : Below w2.heap.size w2 (w2.alloc (.cells #[.int .i64 id, .int .i64 now] 3)) := balloc (Below.refl _ _)
       have HB3 : Below w.heap.size w (w2.alloc (.cells #[.int .i64 id, .int .i64 now] 3)) := bstep HB2 hA
       have d4 := d3.later hA
       have d5 := d2.later hA
       clear hc2
       have hc2 := d5.cell)
    | (go_at_call 32; refine (copy_any m _ _ _ (HL.out.below HB3) hn).mono ?_; rintro e w4 ⟨⟨v, rfl, A', c', rfl, hcc, hrow⟩, hb⟩
       have HB4 : Below w.heap.size w w4 := bstep HB3 hb
       have HG4 : w.heap.size + 1 < w4.heap.size := (d4.later hb).lt
       have HG0 : w.heap.size < w4.heap.size := (d5.later hb).lt
       have hrow4 := Lib.hid (show w4.ownsRow w.heap.size 9 1 (.slice A' m.keys.length c') m.keys.length (m.keys.map Value.string) from ownsRow_base_a hrow (HB3.size))
       clear hrow
       have f3 := d4.later hb
       have f2 := d5.later hb
       clear hc2
       have hc2 := f2.cell))
  have q3 := f3
  have hw := HW.out
  refine wp_region_held_drew (S := fun W => W.cell? ⟨w4.heap.size, 3, none⟩ = some (.int .i64 (m.retry + 1))) (by kernel_rfl) ?_ (fun hHeld => ?_)
  · simp
  refine wpAnyH_take (i := 0) (v := ?_) rfl (by kernel_rfl) (by kernel_rfl) (by kernel_rfl) (fun _ _ _ h => h) (Or.inl ⟨by rfl, ?_⟩) (by assumption) ?_
  rotate_left
  · intro W hSw
    (try dsimp only at hSw)
    go_simp
    (try with_reducible rfl)
  (try simp only [Act.put, List.getElem_toArray, List.getElem_cons_succ, List.getElem_cons_zero, List.setIfInBounds_toArray, List.set_cons_zero, List.set_cons_succ])
  refine wpAnyH_take (i := 2) (v := ?_) rfl (by kernel_rfl) (by kernel_rfl) (by kernel_rfl) (fun _ _ _ h => h) (Or.inl ⟨by rfl, ?_⟩) (by assumption) ?_
  rotate_left
  · intro W hSw
    (try dsimp only at hSw)
    go_simp
    (try with_reducible rfl)
  (try simp only [Act.put, List.getElem_toArray, List.getElem_cons_succ, List.getElem_cons_zero, List.setIfInBounds_toArray, List.set_cons_zero, List.set_cons_succ])
  refine wpAnyH_take (i := 3) (v := ?_) rfl (by kernel_rfl) (by kernel_rfl) (by kernel_rfl) (fun _ _ _ h => h) (Or.inl ⟨by rfl, ?_⟩) (by assumption) ?_
  rotate_left
  · intro W hSw
    (try dsimp only at hSw)
    go_simp
    (try with_reducible rfl)
  (try simp only [Act.put, List.getElem_toArray, List.getElem_cons_succ, List.getElem_cons_zero, List.setIfInBounds_toArray, List.set_cons_zero, List.set_cons_succ])
  refine wpAnyH_take (i := 4) (v := ?_) rfl (by kernel_rfl) (by kernel_rfl) (by kernel_rfl) (fun _ _ _ h => h) (Or.inl ⟨by rfl, ?_⟩) (by assumption) ?_
  rotate_left
  · intro W hSw
    (try dsimp only at hSw)
    go_simp
    (try with_reducible rfl)
  (try simp only [Act.put, List.getElem_toArray, List.getElem_cons_succ, List.getElem_cons_zero, List.setIfInBounds_toArray, List.set_cons_zero, List.set_cons_succ])
  refine wpAnyH_take (i := 7) (v := ?_) rfl (by kernel_rfl) (by kernel_rfl) (by kernel_rfl) (fun _ _ _ h => h) (Or.inl ⟨by rfl, ?_⟩) (by assumption) ?_
  rotate_left
  · intro W hSw
    (try dsimp only at hSw)
    go_simp
    (try with_reducible rfl)
  (try simp only [Act.put, List.getElem_toArray, List.getElem_cons_succ, List.getElem_cons_zero, List.setIfInBounds_toArray, List.set_cons_zero, List.set_cons_succ])
  refine wpAnyH_take (i := 8) (v := ?_) rfl (by kernel_rfl) (by kernel_rfl) (by kernel_rfl) (fun _ _ _ h => h) (Or.inl ⟨by rfl, ?_⟩) (by assumption) ?_
  rotate_left
  · intro W hSw
    (try dsimp only at hSw)
    go_simp
    (try with_reducible rfl)
  (try simp only [Act.put, List.getElem_toArray, List.getElem_cons_succ, List.getElem_cons_zero, List.setIfInBounds_toArray, List.set_cons_zero, List.set_cons_succ])
  refine wpAnyH_ready (rs := [1]) (by kernel_rfl) (by simp) ?_
  refine AllReadyH.cons rfl (fun K hK => ?_) AllReadyH.nil
  rw [if_pos (by rfl)]
  simp only [List.getElem_toArray, List.getElem_cons_succ, List.getElem_cons_zero]
  go_simp
  go_at_call 47
  refine (retry_any _ _ (by omega)).mono ?_
  rintro e w5 ⟨rfl, hb⟩
  have hA5 : Below w4.heap.size w4 ((w4.alloc (.cells #[.int .i64 m.kind, .int .i64 0, .int .i64 m.due, .int .i64 (m.retry + 1), .int .i64 m.ref, .int .i64 now, .string m.topic, .string m.tag, .string m.body, .slice A' m.keys.length c'] 39)).drew) := bdrew (balloc (Below.refl _ _))
  have HB5 : Below w.heap.size w w5 := bstep (bstep HB4 hA5) hb
  have hrow5 := Lib.hid (ownsRow_later (ownsRow_later hrow4.out hA5) hb)
  have g3 := (q3.later hA5).later hb
  have g10 : Blk w5 w4.heap.size 39 #[.int .i64 m.kind, .int .i64 0, .int .i64 m.due, .int .i64 (m.retry + 1), .int .i64 m.ref, .int .i64 now, .string m.topic, .string m.tag, .string m.body, .slice A' m.keys.length c'] := Blk.later (w := (w4.alloc (.cells #[.int .i64 m.kind, .int .i64 0, .int .i64 m.due, .int .i64 (m.retry + 1), .int .i64 m.ref, .int .i64 now, .string m.topic, .string m.tag, .string m.body, .slice A' m.keys.length c'] 39)).drew) (Blk.new w4 39 #[.int .i64 m.kind, .int .i64 0, .int .i64 m.due, .int .i64 (m.retry + 1), .int .i64 m.ref, .int .i64 now, .string m.topic, .string m.tag, .string m.body, .slice A' m.keys.length c']) hb
  clear hc2
  have hc10 := g10.cell
  dsimp only
  refine hK.out _ _ ?_ (fun hHeld => ?_)
  · rw [hc10]; rfl
  clear hK K
  (try simp only [Act.put, List.getElem_toArray, List.getElem_cons_succ, List.getElem_cons_zero, List.setIfInBounds_toArray, List.set_cons_zero, List.set_cons_succ])
  refine wpAnyH_ready (rs := [5]) (by kernel_rfl) (by simp) ?_
  refine AllReadyH.cons rfl (fun K hK => ?_) AllReadyH.nil
  rw [if_pos (by rfl)]
  simp only [List.getElem_toArray, List.getElem_cons_succ, List.getElem_cons_zero]
  go_simp
  go_at_call 26
  refine (delay_any _ _ (by omega) (by omega)).mono ?_
  rintro e w' ⟨rfl, rfl⟩
  dsimp only
  refine hK.out _ _ ?_ (fun hHeld => ?_)
  · assumption
  clear hK K
  (try simp only [Act.put, List.getElem_toArray, List.getElem_cons_succ, List.getElem_cons_zero, List.setIfInBounds_toArray, List.set_cons_zero, List.set_cons_succ])
  refine wpAnyH_take (i := 6) (v := ?_) rfl (by kernel_rfl) (by kernel_rfl) (by kernel_rfl) (fun _ _ _ h => h) (Or.inl ⟨by rfl, ?_⟩) (by assumption) ?_
  rotate_left
  · intro W hSw
    (try dsimp only at hSw)
    go_simp
    (try with_reducible rfl)
  (try simp only [Act.put, List.getElem_toArray, List.getElem_cons_succ, List.getElem_cons_zero, List.setIfInBounds_toArray, List.set_cons_zero, List.set_cons_succ])
  refine wpAnyH_ready (rs := [9]) (by kernel_rfl) (by simp) ?_
  refine AllReadyH.cons rfl (fun K hK => ?_) AllReadyH.nil
  rw [if_pos (by rfl)]
  simp only [List.getElem_toArray, List.getElem_cons_succ, List.getElem_cons_zero]
  refine wp_field (ty := 3) (x := .tmp 65) (y := .const (.int .i64 2)) (g := w4.heap.size) (i := 0) (v := .int .i64 2) ?_ ?_ ?_ ?_ ?_ ?_ g10 ?_ ?_
  · rfl
  · rfl
  · rfl
  · rfl
  · rfl
  · kernel_rfl
  · simp
  intro w6 u1 hbt
  replace u1 : Blk w6 w4.heap.size 39 #[.int .i64 2, .int .i64 0, .int .i64 m.due, .int .i64 (m.retry + 1), .int .i64 m.ref, .int .i64 now, .string m.topic, .string m.tag, .string m.body, .slice A' m.keys.length c'] := u1
  have HB6 : Below w.heap.size w w6 := HB5.trans (hbt.below (by omega))
  have hrow6 := Lib.hid (ownsRow_but hrow5.out hbt g10 (by decide))
  have k1 := g3.but hbt (by omega)
  clear hc10
  have hc10 := u1.cell
  refine hK.out _ _ ?_ (fun hHeld => ?_)
  · rw [hc10]; rfl
  clear hK K
  (try simp only [Act.put, List.getElem_toArray, List.getElem_cons_succ, List.getElem_cons_zero, List.setIfInBounds_toArray, List.set_cons_zero, List.set_cons_succ])
  refine wpAnyH_take (i := 10) (v := ?_) rfl (by kernel_rfl) (by kernel_rfl) (by kernel_rfl) (fun _ _ _ h => h) (Or.inl ⟨by rfl, ?_⟩) (by assumption) ?_
  rotate_left
  · intro W hSw
    (try dsimp only at hSw)
    go_simp
    (try with_reducible rfl)
  (try simp only [Act.put, List.getElem_toArray, List.getElem_cons_succ, List.getElem_cons_zero, List.setIfInBounds_toArray, List.set_cons_zero, List.set_cons_succ])
  refine wpAnyH_ready (rs := [11]) (by kernel_rfl) (by simp) ?_
  refine AllReadyH.cons rfl (fun K hK => ?_) AllReadyH.nil
  rw [if_pos (by rfl)]
  simp only [List.getElem_toArray, List.getElem_cons_succ, List.getElem_cons_zero]
  refine wp_field (ty := 9) (x := .tmp 66) (y := .tmp 58) (g := w4.heap.size) (i := 6) (v := .string (ownB (B retryL) g)) ?_ ?_ ?_ ?_ ?_ ?_ u1 ?_ ?_
  · rfl
  · rfl
  · rfl
  · rfl
  · rfl
  · kernel_rfl
  · simp
  intro w7 u2 hbt
  replace u2 : Blk w7 w4.heap.size 39 #[.int .i64 2, .int .i64 0, .int .i64 m.due, .int .i64 (m.retry + 1), .int .i64 m.ref, .int .i64 now, .string (ownB (B retryL) g), .string m.tag, .string m.body, .slice A' m.keys.length c'] := u2
  have HB7 : Below w.heap.size w w7 := HB6.trans (hbt.below (by omega))
  have hrow7 := Lib.hid (ownsRow_but hrow6.out hbt u1 (by decide))
  have k2 := k1.but hbt (by omega)
  clear hc10
  have hc10 := u2.cell
  refine hK.out _ _ ?_ (fun hHeld => ?_)
  · rw [hc10]; rfl
  clear hK K
  (try simp only [Act.put, List.getElem_toArray, List.getElem_cons_succ, List.getElem_cons_zero, List.setIfInBounds_toArray, List.set_cons_zero, List.set_cons_succ])
  refine wpAnyH_take (i := 12) (v := ?_) rfl (by kernel_rfl) (by kernel_rfl) (by kernel_rfl) (fun _ _ _ h => h) (Or.inl ⟨by rfl, ?_⟩) (by assumption) ?_
  rotate_left
  · intro W hSw
    (try dsimp only at hSw)
    go_simp
    (try with_reducible rfl)
  (try simp only [Act.put, List.getElem_toArray, List.getElem_cons_succ, List.getElem_cons_zero, List.setIfInBounds_toArray, List.set_cons_zero, List.set_cons_succ])
  refine wpAnyH_ready (rs := [13]) (by kernel_rfl) (by simp) ?_
  refine AllReadyH.cons rfl (fun K hK => ?_) AllReadyH.nil
  rw [if_pos (by rfl)]
  simp only [List.getElem_toArray, List.getElem_cons_succ, List.getElem_cons_zero]
  refine wp_field (ty := 3) (x := .tmp 67) (y := .tmp 63) (g := w4.heap.size) (i := 2) (v := .int .i64 (now + delayN (m.retry + 1))) ?_ ?_ ?_ ?_ ?_ ?_ u2 ?_ ?_
  · rfl
  · rfl
  · rfl
  · rfl
  · rfl
  · kernel_rfl
  · simp
  intro w8 u3 hbt
  replace u3 : Blk w8 w4.heap.size 39 #[.int .i64 2, .int .i64 0, .int .i64 (now + delayN (m.retry + 1)), .int .i64 (m.retry + 1), .int .i64 m.ref, .int .i64 now, .string (ownB (B retryL) g), .string m.tag, .string m.body, .slice A' m.keys.length c'] := u3
  have HB8 : Below w.heap.size w w8 := HB7.trans (hbt.below (by omega))
  have hrow8 := Lib.hid (ownsRow_but hrow7.out hbt u2 (by decide))
  have k3 := k2.but hbt (by omega)
  clear hc10
  have hc10 := u3.cell
  refine hK.out _ _ ?_ (fun hHeld => ?_)
  · rw [hc10]; rfl
  clear hK K
  (try simp only [Act.put, List.getElem_toArray, List.getElem_cons_succ, List.getElem_cons_zero, List.setIfInBounds_toArray, List.set_cons_zero, List.set_cons_succ])
  refine wpAnyH_take (i := 14) (v := ?_) rfl (by kernel_rfl) (by kernel_rfl) (by kernel_rfl) (fun _ _ _ h => h) (Or.inl ⟨by rfl, ?_⟩) (by assumption) ?_
  rotate_left
  · intro W hSw
    (try dsimp only at hSw)
    go_simp
    (try with_reducible rfl)
  (try simp only [Act.put, List.getElem_toArray, List.getElem_cons_succ, List.getElem_cons_zero, List.setIfInBounds_toArray, List.set_cons_zero, List.set_cons_succ])
  refine wpAnyH_ready (rs := [15]) (by kernel_rfl) (by simp) ?_
  refine AllReadyH.cons rfl (fun K hK => ?_) AllReadyH.nil
  rw [if_pos (by rfl)]
  simp only [List.getElem_toArray, List.getElem_cons_succ, List.getElem_cons_zero]
  refine wp_field (ty := 3) (x := .tmp 68) (y := .tmp 64) (g := w4.heap.size) (i := 4) (v := .int .i64 id) ?_ ?_ ?_ ?_ ?_ ?_ u3 ?_ ?_
  · rfl
  · rfl
  · rfl
  · rfl
  · rfl
  · kernel_rfl
  · simp
  intro w9 u4 hbt
  replace u4 : Blk w9 w4.heap.size 39 #[.int .i64 2, .int .i64 0, .int .i64 (now + delayN (m.retry + 1)), .int .i64 (m.retry + 1), .int .i64 id, .int .i64 now, .string (ownB (B retryL) g), .string m.tag, .string m.body, .slice A' m.keys.length c'] := u4
  have HB9 : Below w.heap.size w w9 := HB8.trans (hbt.below (by omega))
  have hrow9 := Lib.hid (ownsRow_but hrow8.out hbt u3 (by decide))
  have k4 := k3.but hbt (by omega)
  clear hc10
  have hc10 := u4.cell
  refine hK.out _ _ ?_ (fun hHeld => ?_)
  · rw [hc10]; rfl
  clear hK K
  (try simp only [Act.put, List.getElem_toArray, List.getElem_cons_succ, List.getElem_cons_zero, List.setIfInBounds_toArray, List.set_cons_zero, List.set_cons_succ])
  refine wpAnyH_done (by kernel_rfl) ?_ _
  go_wp2_with (first
    | (refine ev_row (ty := 39) (x := .tmp 8) (y := .tmp 69) (g := w.heap.size + 1) (cells := #[.int .i64 2, .int .i64 0, .int .i64 (now + delayN (m.retry + 1)), .int .i64 (m.retry + 1), .int .i64 id, .int .i64 now, .string (ownB (B retryL) g), .string m.tag, .string m.body, .slice A' m.keys.length c']) ?_ ?_ ?_ ?_ ?_ ?_ ?_ k4 ?_ ?_; (rfl); (rfl); (rfl); (rfl); (rfl); (simp [Value.oneCell']); (kernel_rfl); (rfl)
       intro w99 b99 hbt
       have HB99 : Below w.heap.size w w99 := HB9.trans (hbt.below (by omega))
       have hrow99 := ownsRow_but hrow9.out hbt k4 (by decide)
       have hc99 := b99.cell))
  refine bodyPost_ret (v := .tuple #[.agg #[.int .i64 2, .int .i64 0, .int .i64 (now + delayN (m.retry + 1)), .int .i64 (m.retry + 1), .int .i64 id, .int .i64 now, .string (ownB (B retryL) g), .string m.tag, .string m.body, .slice A' m.keys.length c'], .int .i64 0]) ?_ rfl ⟨⟨_, by rw [HR.out], by rw [HR.out]; exact ⟨A', c', rfl, hcc, hrow99⟩⟩, HB99⟩
  simp [results, Try.results21, go_sem, hc99]


set_option maxRecDepth 100000 in
set_option maxHeartbeats 8000000 in
theorem again_r3x (m : Msg) (A : Option Addr) (c : Nat) (id : Int) (g : ByteArray) (now : Int) (w : World) (hl : Strs w A m.keys) (hn : m.keys.length * 16 ≤ 140737488355328) (hs : ∀ s ∈ m.keys, s.size ≤ 9223372036854775807) (hgz : g.size ≤ 9223372036854775800)
    (f0 : groupL (L g) = true) (f1 : rightM m = true) (k1 : (m.kind == 1) = false) (k3 : (m.kind == 3) = true) (n1 : (m.kind != 1) = true) (n3 : (m.kind != 3) = false) (f2 : allI okT [id, now] = true) (hlo : 0 ≤ m.retry) (hhi : m.retry < 4) (hid : 0 ≤ now) (hnw : now ≤ 1099511626776) (f3 : decide (4 ≤ m.retry) = false) :
    Calls Try.prog 21 #[.agg #[.int .i64 m.kind, .int .i64 m.queue, .int .i64 m.due, .int .i64 m.retry, .int .i64 m.ref, .int .i64 m.born, .string m.topic, .string m.tag, .string m.body, .slice A m.keys.length c], .int .i64 id, .string g, .int .i64 now] w fun e w' => (∃ v, e = .returned (.tuple #[v, .int .i64 (againM m id g now).2]) ∧ OwnMsg w.heap.size w' v (againM m id g now).1) ∧ Below w.heap.size w w' := by
  have HR := Lib.hid (show againM m id g now = (retryM m id g now, 0) by simp only [againM, mayM, f0, f1, f2, f3, k1, k3]; rfl)
  have HL := Lib.hid hl
  have HS := Lib.hid hs
  clear hl hs
  have HB := Below.refl w.heap.size w
  have e2 : Blk ((w.alloc (.cells #[.int .i64 m.kind, .int .i64 m.queue, .int .i64 m.due, .int .i64 m.retry, .int .i64 m.ref, .int .i64 m.born, .string m.topic, .string m.tag, .string m.body, .slice A m.keys.length c] 39)).alloc (.cells #[.int .i64 0, .int .i64 0, .int .i64 0, .int .i64 0, .int .i64 0, .int .i64 0, .string ⟨#[]⟩, .string ⟨#[]⟩, .string ⟨#[]⟩, .slice none 0 0] 39)) w.heap.size 39 #[.int .i64 m.kind, .int .i64 m.queue, .int .i64 m.due, .int .i64 m.retry, .int .i64 m.ref, .int .i64 m.born, .string m.topic, .string m.tag, .string m.body, .slice A m.keys.length c] := heap_alloc2_old w _ _
  have e3 : Blk ((w.alloc (.cells #[.int .i64 m.kind, .int .i64 m.queue, .int .i64 m.due, .int .i64 m.retry, .int .i64 m.ref, .int .i64 m.born, .string m.topic, .string m.tag, .string m.body, .slice A m.keys.length c] 39)).alloc (.cells #[.int .i64 0, .int .i64 0, .int .i64 0, .int .i64 0, .int .i64 0, .int .i64 0, .string ⟨#[]⟩, .string ⟨#[]⟩, .string ⟨#[]⟩, .slice none 0 0] 39)) (w.heap.size + 1) 39 #[.int .i64 0, .int .i64 0, .int .i64 0, .int .i64 0, .int .i64 0, .int .i64 0, .string ⟨#[]⟩, .string ⟨#[]⟩, .string ⟨#[]⟩, .slice none 0 0] := heap_alloc2_new w _ _
  go_enter Try.func21, Try.ntmps21
  have hf3 := f3
  clear f3
  obtain ⟨hd0, hd1⟩ : 0 ≤ delayN (m.retry + 1) ∧ delayN (m.retry + 1) ≤ 16 := by unfold delayN; omega
  have hw : IntKind.i64.wrap (now + delayN (m.retry + 1)) = now + delayN (m.retry + 1) := IntWalk.i64_in _ (by omega)
  have HW := Lib.hid hw
  clear hw
  go_wp2_with (first
    | (go_at_call 43; refine (group_any _ _).mono ?_; rintro e w1 ⟨rfl, hb⟩
       have HB1 : Below w.heap.size w w1 := bstep (by repeat (first | exact HB | apply balloc)) hb
       have b2 := e2.later hb
       have b3 := e3.later hb
       have hc2 := b2.cell)
    | (go_at_call 44; refine (right_any m _ _ _ (HL.out.below HB1) hn HS.out).mono ?_; rintro e w2 ⟨rfl, hb⟩
       have HB2 : Below w.heap.size w w2 := bstep HB1 hb
       have d2 := b2.later hb
       have d3 := b3.later hb
       clear hc2
       have hc2 := d2.cell)
    | (go_at_call 45; refine (time_any (some ⟨w2.heap.size, 0, none⟩) 2 [id, now] _ (ints_new w2 [id, now] 3 (by simp)) (by simp)).mono ?_; rintro e w' ⟨rfl, rfl⟩
       have hA : Below w2.heap.size w2 (w2.alloc (.cells #[.int .i64 id, .int .i64 now] 3)) := balloc (Below.refl _ _)
       have HB3 : Below w.heap.size w (w2.alloc (.cells #[.int .i64 id, .int .i64 now] 3)) := bstep HB2 hA
       have d4 := d3.later hA
       have d5 := d2.later hA
       clear hc2
       have hc2 := d5.cell)
    | (go_at_call 32; refine (copy_any m _ _ _ (HL.out.below HB3) hn).mono ?_; rintro e w4 ⟨⟨v, rfl, A', c', rfl, hcc, hrow⟩, hb⟩
       have HB4 : Below w.heap.size w w4 := bstep HB3 hb
       have HG4 : w.heap.size + 1 < w4.heap.size := (d4.later hb).lt
       have HG0 : w.heap.size < w4.heap.size := (d5.later hb).lt
       have hrow4 := Lib.hid (show w4.ownsRow w.heap.size 9 1 (.slice A' m.keys.length c') m.keys.length (m.keys.map Value.string) from ownsRow_base_a hrow (HB3.size))
       clear hrow
       have f3 := d4.later hb
       have f2 := d5.later hb
       clear hc2
       have hc2 := f2.cell))
  have q3 := f3
  have hw := HW.out
  refine wp_region_held_drew (S := fun W => W.cell? ⟨w4.heap.size, 3, none⟩ = some (.int .i64 (m.retry + 1))) (by kernel_rfl) ?_ (fun hHeld => ?_)
  · simp
  refine wpAnyH_take (i := 0) (v := ?_) rfl (by kernel_rfl) (by kernel_rfl) (by kernel_rfl) (fun _ _ _ h => h) (Or.inl ⟨by rfl, ?_⟩) (by assumption) ?_
  rotate_left
  · intro W hSw
    (try dsimp only at hSw)
    go_simp
    (try with_reducible rfl)
  (try simp only [Act.put, List.getElem_toArray, List.getElem_cons_succ, List.getElem_cons_zero, List.setIfInBounds_toArray, List.set_cons_zero, List.set_cons_succ])
  refine wpAnyH_take (i := 2) (v := ?_) rfl (by kernel_rfl) (by kernel_rfl) (by kernel_rfl) (fun _ _ _ h => h) (Or.inl ⟨by rfl, ?_⟩) (by assumption) ?_
  rotate_left
  · intro W hSw
    (try dsimp only at hSw)
    go_simp
    (try with_reducible rfl)
  (try simp only [Act.put, List.getElem_toArray, List.getElem_cons_succ, List.getElem_cons_zero, List.setIfInBounds_toArray, List.set_cons_zero, List.set_cons_succ])
  refine wpAnyH_take (i := 3) (v := ?_) rfl (by kernel_rfl) (by kernel_rfl) (by kernel_rfl) (fun _ _ _ h => h) (Or.inl ⟨by rfl, ?_⟩) (by assumption) ?_
  rotate_left
  · intro W hSw
    (try dsimp only at hSw)
    go_simp
    (try with_reducible rfl)
  (try simp only [Act.put, List.getElem_toArray, List.getElem_cons_succ, List.getElem_cons_zero, List.setIfInBounds_toArray, List.set_cons_zero, List.set_cons_succ])
  refine wpAnyH_take (i := 4) (v := ?_) rfl (by kernel_rfl) (by kernel_rfl) (by kernel_rfl) (fun _ _ _ h => h) (Or.inl ⟨by rfl, ?_⟩) (by assumption) ?_
  rotate_left
  · intro W hSw
    (try dsimp only at hSw)
    go_simp
    (try with_reducible rfl)
  (try simp only [Act.put, List.getElem_toArray, List.getElem_cons_succ, List.getElem_cons_zero, List.setIfInBounds_toArray, List.set_cons_zero, List.set_cons_succ])
  refine wpAnyH_take (i := 7) (v := ?_) rfl (by kernel_rfl) (by kernel_rfl) (by kernel_rfl) (fun _ _ _ h => h) (Or.inl ⟨by rfl, ?_⟩) (by assumption) ?_
  rotate_left
  · intro W hSw
    (try dsimp only at hSw)
    go_simp
    (try with_reducible rfl)
  (try simp only [Act.put, List.getElem_toArray, List.getElem_cons_succ, List.getElem_cons_zero, List.setIfInBounds_toArray, List.set_cons_zero, List.set_cons_succ])
  refine wpAnyH_take (i := 8) (v := ?_) rfl (by kernel_rfl) (by kernel_rfl) (by kernel_rfl) (fun _ _ _ h => h) (Or.inl ⟨by rfl, ?_⟩) (by assumption) ?_
  rotate_left
  · intro W hSw
    (try dsimp only at hSw)
    go_simp
    (try with_reducible rfl)
  (try simp only [Act.put, List.getElem_toArray, List.getElem_cons_succ, List.getElem_cons_zero, List.setIfInBounds_toArray, List.set_cons_zero, List.set_cons_succ])
  refine wpAnyH_ready (rs := [1]) (by kernel_rfl) (by simp) ?_
  refine AllReadyH.cons rfl (fun K hK => ?_) AllReadyH.nil
  rw [if_pos (by rfl)]
  simp only [List.getElem_toArray, List.getElem_cons_succ, List.getElem_cons_zero]
  go_simp
  go_at_call 47
  refine (retry_any _ _ (by omega)).mono ?_
  rintro e w5 ⟨rfl, hb⟩
  have hA5 : Below w4.heap.size w4 ((w4.alloc (.cells #[.int .i64 m.kind, .int .i64 0, .int .i64 m.due, .int .i64 (m.retry + 1), .int .i64 m.ref, .int .i64 now, .string m.topic, .string m.tag, .string m.body, .slice A' m.keys.length c'] 39)).drew) := bdrew (balloc (Below.refl _ _))
  have HB5 : Below w.heap.size w w5 := bstep (bstep HB4 hA5) hb
  have hrow5 := Lib.hid (ownsRow_later (ownsRow_later hrow4.out hA5) hb)
  have g3 := (q3.later hA5).later hb
  have g10 : Blk w5 w4.heap.size 39 #[.int .i64 m.kind, .int .i64 0, .int .i64 m.due, .int .i64 (m.retry + 1), .int .i64 m.ref, .int .i64 now, .string m.topic, .string m.tag, .string m.body, .slice A' m.keys.length c'] := Blk.later (w := (w4.alloc (.cells #[.int .i64 m.kind, .int .i64 0, .int .i64 m.due, .int .i64 (m.retry + 1), .int .i64 m.ref, .int .i64 now, .string m.topic, .string m.tag, .string m.body, .slice A' m.keys.length c'] 39)).drew) (Blk.new w4 39 #[.int .i64 m.kind, .int .i64 0, .int .i64 m.due, .int .i64 (m.retry + 1), .int .i64 m.ref, .int .i64 now, .string m.topic, .string m.tag, .string m.body, .slice A' m.keys.length c']) hb
  clear hc2
  have hc10 := g10.cell
  dsimp only
  refine hK.out _ _ ?_ (fun hHeld => ?_)
  · rw [hc10]; rfl
  clear hK K
  (try simp only [Act.put, List.getElem_toArray, List.getElem_cons_succ, List.getElem_cons_zero, List.setIfInBounds_toArray, List.set_cons_zero, List.set_cons_succ])
  refine wpAnyH_ready (rs := [5]) (by kernel_rfl) (by simp) ?_
  refine AllReadyH.cons rfl (fun K hK => ?_) AllReadyH.nil
  rw [if_pos (by rfl)]
  simp only [List.getElem_toArray, List.getElem_cons_succ, List.getElem_cons_zero]
  go_simp
  go_at_call 26
  refine (delay_any _ _ (by omega) (by omega)).mono ?_
  rintro e w' ⟨rfl, rfl⟩
  dsimp only
  refine hK.out _ _ ?_ (fun hHeld => ?_)
  · assumption
  clear hK K
  (try simp only [Act.put, List.getElem_toArray, List.getElem_cons_succ, List.getElem_cons_zero, List.setIfInBounds_toArray, List.set_cons_zero, List.set_cons_succ])
  refine wpAnyH_take (i := 6) (v := ?_) rfl (by kernel_rfl) (by kernel_rfl) (by kernel_rfl) (fun _ _ _ h => h) (Or.inl ⟨by rfl, ?_⟩) (by assumption) ?_
  rotate_left
  · intro W hSw
    (try dsimp only at hSw)
    go_simp
    (try with_reducible rfl)
  (try simp only [Act.put, List.getElem_toArray, List.getElem_cons_succ, List.getElem_cons_zero, List.setIfInBounds_toArray, List.set_cons_zero, List.set_cons_succ])
  refine wpAnyH_ready (rs := [9]) (by kernel_rfl) (by simp) ?_
  refine AllReadyH.cons rfl (fun K hK => ?_) AllReadyH.nil
  rw [if_pos (by rfl)]
  simp only [List.getElem_toArray, List.getElem_cons_succ, List.getElem_cons_zero]
  refine wp_field (ty := 3) (x := .tmp 65) (y := .const (.int .i64 2)) (g := w4.heap.size) (i := 0) (v := .int .i64 2) ?_ ?_ ?_ ?_ ?_ ?_ g10 ?_ ?_
  · rfl
  · rfl
  · rfl
  · rfl
  · rfl
  · kernel_rfl
  · simp
  intro w6 u1 hbt
  replace u1 : Blk w6 w4.heap.size 39 #[.int .i64 2, .int .i64 0, .int .i64 m.due, .int .i64 (m.retry + 1), .int .i64 m.ref, .int .i64 now, .string m.topic, .string m.tag, .string m.body, .slice A' m.keys.length c'] := u1
  have HB6 : Below w.heap.size w w6 := HB5.trans (hbt.below (by omega))
  have hrow6 := Lib.hid (ownsRow_but hrow5.out hbt g10 (by decide))
  have k1 := g3.but hbt (by omega)
  clear hc10
  have hc10 := u1.cell
  refine hK.out _ _ ?_ (fun hHeld => ?_)
  · rw [hc10]; rfl
  clear hK K
  (try simp only [Act.put, List.getElem_toArray, List.getElem_cons_succ, List.getElem_cons_zero, List.setIfInBounds_toArray, List.set_cons_zero, List.set_cons_succ])
  refine wpAnyH_take (i := 10) (v := ?_) rfl (by kernel_rfl) (by kernel_rfl) (by kernel_rfl) (fun _ _ _ h => h) (Or.inl ⟨by rfl, ?_⟩) (by assumption) ?_
  rotate_left
  · intro W hSw
    (try dsimp only at hSw)
    go_simp
    (try with_reducible rfl)
  (try simp only [Act.put, List.getElem_toArray, List.getElem_cons_succ, List.getElem_cons_zero, List.setIfInBounds_toArray, List.set_cons_zero, List.set_cons_succ])
  refine wpAnyH_ready (rs := [11]) (by kernel_rfl) (by simp) ?_
  refine AllReadyH.cons rfl (fun K hK => ?_) AllReadyH.nil
  rw [if_pos (by rfl)]
  simp only [List.getElem_toArray, List.getElem_cons_succ, List.getElem_cons_zero]
  refine wp_field (ty := 9) (x := .tmp 66) (y := .tmp 58) (g := w4.heap.size) (i := 6) (v := .string (ownB (B retryL) g)) ?_ ?_ ?_ ?_ ?_ ?_ u1 ?_ ?_
  · rfl
  · rfl
  · rfl
  · rfl
  · rfl
  · kernel_rfl
  · simp
  intro w7 u2 hbt
  replace u2 : Blk w7 w4.heap.size 39 #[.int .i64 2, .int .i64 0, .int .i64 m.due, .int .i64 (m.retry + 1), .int .i64 m.ref, .int .i64 now, .string (ownB (B retryL) g), .string m.tag, .string m.body, .slice A' m.keys.length c'] := u2
  have HB7 : Below w.heap.size w w7 := HB6.trans (hbt.below (by omega))
  have hrow7 := Lib.hid (ownsRow_but hrow6.out hbt u1 (by decide))
  have k2 := k1.but hbt (by omega)
  clear hc10
  have hc10 := u2.cell
  refine hK.out _ _ ?_ (fun hHeld => ?_)
  · rw [hc10]; rfl
  clear hK K
  (try simp only [Act.put, List.getElem_toArray, List.getElem_cons_succ, List.getElem_cons_zero, List.setIfInBounds_toArray, List.set_cons_zero, List.set_cons_succ])
  refine wpAnyH_take (i := 12) (v := ?_) rfl (by kernel_rfl) (by kernel_rfl) (by kernel_rfl) (fun _ _ _ h => h) (Or.inl ⟨by rfl, ?_⟩) (by assumption) ?_
  rotate_left
  · intro W hSw
    (try dsimp only at hSw)
    go_simp
    (try with_reducible rfl)
  (try simp only [Act.put, List.getElem_toArray, List.getElem_cons_succ, List.getElem_cons_zero, List.setIfInBounds_toArray, List.set_cons_zero, List.set_cons_succ])
  refine wpAnyH_ready (rs := [13]) (by kernel_rfl) (by simp) ?_
  refine AllReadyH.cons rfl (fun K hK => ?_) AllReadyH.nil
  rw [if_pos (by rfl)]
  simp only [List.getElem_toArray, List.getElem_cons_succ, List.getElem_cons_zero]
  refine wp_field (ty := 3) (x := .tmp 67) (y := .tmp 63) (g := w4.heap.size) (i := 2) (v := .int .i64 (now + delayN (m.retry + 1))) ?_ ?_ ?_ ?_ ?_ ?_ u2 ?_ ?_
  · rfl
  · rfl
  · rfl
  · rfl
  · rfl
  · kernel_rfl
  · simp
  intro w8 u3 hbt
  replace u3 : Blk w8 w4.heap.size 39 #[.int .i64 2, .int .i64 0, .int .i64 (now + delayN (m.retry + 1)), .int .i64 (m.retry + 1), .int .i64 m.ref, .int .i64 now, .string (ownB (B retryL) g), .string m.tag, .string m.body, .slice A' m.keys.length c'] := u3
  have HB8 : Below w.heap.size w w8 := HB7.trans (hbt.below (by omega))
  have hrow8 := Lib.hid (ownsRow_but hrow7.out hbt u2 (by decide))
  have k3 := k2.but hbt (by omega)
  clear hc10
  have hc10 := u3.cell
  refine hK.out _ _ ?_ (fun hHeld => ?_)
  · rw [hc10]; rfl
  clear hK K
  (try simp only [Act.put, List.getElem_toArray, List.getElem_cons_succ, List.getElem_cons_zero, List.setIfInBounds_toArray, List.set_cons_zero, List.set_cons_succ])
  refine wpAnyH_take (i := 14) (v := ?_) rfl (by kernel_rfl) (by kernel_rfl) (by kernel_rfl) (fun _ _ _ h => h) (Or.inl ⟨by rfl, ?_⟩) (by assumption) ?_
  rotate_left
  · intro W hSw
    (try dsimp only at hSw)
    go_simp
    (try with_reducible rfl)
  (try simp only [Act.put, List.getElem_toArray, List.getElem_cons_succ, List.getElem_cons_zero, List.setIfInBounds_toArray, List.set_cons_zero, List.set_cons_succ])
  refine wpAnyH_ready (rs := [15]) (by kernel_rfl) (by simp) ?_
  refine AllReadyH.cons rfl (fun K hK => ?_) AllReadyH.nil
  rw [if_pos (by rfl)]
  simp only [List.getElem_toArray, List.getElem_cons_succ, List.getElem_cons_zero]
  refine wp_field (ty := 3) (x := .tmp 68) (y := .tmp 64) (g := w4.heap.size) (i := 4) (v := .int .i64 id) ?_ ?_ ?_ ?_ ?_ ?_ u3 ?_ ?_
  · rfl
  · rfl
  · rfl
  · rfl
  · rfl
  · kernel_rfl
  · simp
  intro w9 u4 hbt
  replace u4 : Blk w9 w4.heap.size 39 #[.int .i64 2, .int .i64 0, .int .i64 (now + delayN (m.retry + 1)), .int .i64 (m.retry + 1), .int .i64 id, .int .i64 now, .string (ownB (B retryL) g), .string m.tag, .string m.body, .slice A' m.keys.length c'] := u4
  have HB9 : Below w.heap.size w w9 := HB8.trans (hbt.below (by omega))
  have hrow9 := Lib.hid (ownsRow_but hrow8.out hbt u3 (by decide))
  have k4 := k3.but hbt (by omega)
  clear hc10
  have hc10 := u4.cell
  refine hK.out _ _ ?_ (fun hHeld => ?_)
  · rw [hc10]; rfl
  clear hK K
  (try simp only [Act.put, List.getElem_toArray, List.getElem_cons_succ, List.getElem_cons_zero, List.setIfInBounds_toArray, List.set_cons_zero, List.set_cons_succ])
  refine wpAnyH_done (by kernel_rfl) ?_ _
  go_wp2_with (first
    | (refine ev_row (ty := 39) (x := .tmp 8) (y := .tmp 69) (g := w.heap.size + 1) (cells := #[.int .i64 2, .int .i64 0, .int .i64 (now + delayN (m.retry + 1)), .int .i64 (m.retry + 1), .int .i64 id, .int .i64 now, .string (ownB (B retryL) g), .string m.tag, .string m.body, .slice A' m.keys.length c']) ?_ ?_ ?_ ?_ ?_ ?_ ?_ k4 ?_ ?_; (rfl); (rfl); (rfl); (rfl); (rfl); (simp [Value.oneCell']); (kernel_rfl); (rfl)
       intro w99 b99 hbt
       have HB99 : Below w.heap.size w w99 := HB9.trans (hbt.below (by omega))
       have hrow99 := ownsRow_but hrow9.out hbt k4 (by decide)
       have hc99 := b99.cell))
  refine bodyPost_ret (v := .tuple #[.agg #[.int .i64 2, .int .i64 0, .int .i64 (now + delayN (m.retry + 1)), .int .i64 (m.retry + 1), .int .i64 id, .int .i64 now, .string (ownB (B retryL) g), .string m.tag, .string m.body, .slice A' m.keys.length c'], .int .i64 0]) ?_ rfl ⟨⟨_, by rw [HR.out], by rw [HR.out]; exact ⟨A', c', rfl, hcc, hrow99⟩⟩, HB99⟩
  simp [results, Try.results21, go_sem, hc99]


theorem carries_retry (m : Msg) (h : carriesM m = true) : 0 ≤ m.retry ∧ m.retry ≤ 4 := by
  simp only [carriesM, Bool.and_eq_true, decide_eq_true_eq] at h; omega
theorem right_retry (m : Msg) (h : rightM m = true) (hk : (m.kind == 1) = true ∨ (m.kind == 3) = true) : 0 ≤ m.retry ∧ m.retry ≤ 4 := by
  unfold rightM at h
  split at h
  · rcases hk with hk | hk
    · rw [if_pos hk] at h
      exact carries_retry m (by simp only [Bool.and_eq_true] at h; exact h.1)
    · have h1 : ¬ (m.kind == 1) = true := by simp at hk ⊢; omega
      have h2 : ¬ (m.kind == 2) = true := by simp at hk ⊢; omega
      rw [if_neg h1, if_neg h2, if_pos hk] at h
      exact carries_retry m h
  · cases h

theorem again_any (m : Msg) (A : Option Addr) (c : Nat) (id : Int) (g : ByteArray) (now : Int) (w : World) (hl : Strs w A m.keys) (hn : m.keys.length * 16 ≤ 140737488355328) (hs : ∀ s ∈ m.keys, s.size ≤ 9223372036854775807) (hgz : g.size ≤ 9223372036854775800) :
    Calls Try.prog 21 #[.agg #[.int .i64 m.kind, .int .i64 m.queue, .int .i64 m.due, .int .i64 m.retry, .int .i64 m.ref, .int .i64 m.born, .string m.topic, .string m.tag, .string m.body, .slice A m.keys.length c], .int .i64 id, .string g, .int .i64 now] w fun e w' => (∃ v, e = .returned (.tuple #[v, .int .i64 (againM m id g now).2]) ∧ OwnMsg w.heap.size w' v (againM m id g now).1) ∧ Below w.heap.size w w' := by
  rcases Bool.eq_false_or_eq_true (groupL (L g)) with f0 | f0
  rotate_left
  · exact again_g m A c id g now w hl hn hs hgz f0
  rcases Bool.eq_false_or_eq_true (rightM m) with f1 | f1
  rotate_left
  · exact again_r m A c id g now w hl hn hs hgz f0 f1
  rcases kind13 m.kind with ⟨k1, k3, n1, n3⟩ | ⟨k1, k3, n1, n3⟩ | ⟨k1, k3, n1, n3⟩
  rotate_left 2
  · exact again_k m A c id g now w hl hn hs hgz f0 f1 k1 k3 n1 n3
  all_goals
    obtain ⟨hlo, hhi⟩ := right_retry m f1 (by first | exact Or.inl k1 | exact Or.inr k3)
    rcases Bool.eq_false_or_eq_true (allI okT [id, now]) with f2 | f2
    rotate_left
    · first
        | exact again_t1 m A c id g now w hl hn hs hgz f0 f1 k1 k3 n1 n3 f2
        | exact again_t3 m A c id g now w hl hn hs hgz f0 f1 k1 k3 n1 n3 f2
    rcases Bool.eq_false_or_eq_true (decide (4 ≤ m.retry)) with f3 | f3
    · first
        | exact again_d1 m A c id g now w hl hn hs hgz f0 f1 k1 k3 n1 n3 f2 f3
        | exact again_d3 m A c id g now w hl hn hs hgz f0 f1 k1 k3 n1 n3 f2 f3
    have h4 : m.retry < 4 := by simp at f3; omega
    have ht : 0 ≤ now ∧ now ≤ 1099511626776 := by simp [allI, okT] at f2; omega
    first
      | exact again_r1x m A c id g now w hl hn hs hgz f0 f1 k1 k3 n1 n3 f2 hlo h4 ht.1 ht.2 f3
      | exact again_r3x m A c id g now w hl hn hs hgz f0 f1 k1 k3 n1 n3 f2 hlo h4 ht.1 ht.2 f3

end Go.Proofs.Ytnlpohcnlmdocaa
