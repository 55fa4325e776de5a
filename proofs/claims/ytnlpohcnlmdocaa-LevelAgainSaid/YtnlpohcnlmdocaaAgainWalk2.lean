/- The walk of LevelAgain: where something comes. -/
import Derived.Test.YtnlpohcnlmdocaaAgainWalk
namespace Go.Proofs.Ytnlpohcnlmdocaa
open Go.RowKit Go.Shelf
set_option linter.unusedSimpArgs false
set_option linter.unusedVariables false


set_option maxRecDepth 100000 in
set_option maxHeartbeats 8000000 in
theorem la_d1 (m : Msg) (A : Option Addr) (c : Nat) (id : Int) (g : ByteArray) (now : Int) (w : World) (hl : Strs w A m.keys) (wi : (Lit.int .i64 id).wf = true) (wn : (Lit.int .i64 now).wf = true) (hG : greatM m = false) (hS : decide ((100 : Int) < (g.size : Int)) = false) (f0 : groupL (L g) = true) (f1 : rightM m = true) (k1 : (m.kind == 1) = true) (k3 : (m.kind == 3) = false) (n1 : (m.kind != 1) = false) (n3 : (m.kind != 3) = true) (t0 : okT id = true) (t1 : okT now = true) (f3 : decide (m.retry < 4) = false) :
    Calls Try.prog 5 #[.agg #[.int .i64 m.kind, .int .i64 m.queue, .int .i64 m.due, .int .i64 m.retry, .int .i64 m.ref, .int .i64 m.born, .string m.topic, .string m.tag, .string m.body, .slice A m.keys.length c], .string g, .agg #[.int .i64 id, .int .i64 now]] w fun e w' => e = .returned (.bool true) ∧ Below w.heap.size w w' := by
  obtain ⟨hn, hs, -, hzb, hzt, hzg⟩ := great_low hG
  have HS := Lib.hid hs
  have hgz : g.size ≤ 100 := by simp at hS; omega
  have hz1 : m.topic.size ≤ 9223372036854775807 := by omega
  have hz2 : m.tag.size ≤ 9223372036854775807 := by omega
  have hz3 : m.body.size ≤ 9223372036854775806 := by omega
  clear hs
  have hM0 : mayM m = true := by simp only [mayM, f1, k1, k3]; rfl
  have HM := Lib.hid hM0
  have HT := Lib.hid (show allI okT [id, now] = true by simp [allI, t0, t1])
  have hcar := right_carries f1 (by first | exact Or.inl k1 | exact Or.inr k3)
  have hri : 0 ≤ id ∧ id ≤ 1099511626776 := by simp [okT] at t0; omega
  have hrn : 0 ≤ now ∧ now ≤ 1099511626776 := by simp [okT] at t1; omega
  obtain ⟨hrlo, hrhi⟩ := carries_retry m hcar
  clear hM0
  have hsame := (show sameM (deadM m g now) (wantD m g now) = true by rw [wantD_eq f0]; exact sameM_self _)
  have hright := right_dead (m := m) (now := now) f0 hcar hrn.1 (by omega)
  have hzo : (ownB (B deadL) g).size ≤ 1000 := by rw [← ownB_yes f0, ByteArray.size_append, B_size]; simp [deadL]; omega
  have HQ := Lib.hid (And.intro hsame hright)
  clear hsame hright hcar
  have HL := Lib.hid hl
  clear hl
  go_enter Try.func5, Try.ntmps5
  go_wp2_with (first
    | (go_at_call 9; refine (awake_any _).mono ?_; rintro e w' ⟨rfl, rfl⟩)
    | (go_at_call 20; refine (great_any m A c (w.heap.size + 2) _ (HL.out.below (by repeat (first | exact Below.refl _ _ | apply balloc | apply bdrew | apply bdrewN))) (blk_at (Blk.new _ _ _) (by simp))).mono ?_; rintro e w1 ⟨rfl, hb⟩
       have HB1 : Below w.heap.size w w1 := bstep (by repeat (first | exact Below.refl _ _ | apply balloc | apply bdrew | apply bdrewN)) hb
       have b3 : Blk w1 w.heap.size 39 #[.int .i64 m.kind, .int .i64 m.queue, .int .i64 m.due, .int .i64 m.retry, .int .i64 m.ref, .int .i64 m.born, .string m.topic, .string m.tag, .string m.body, .slice A m.keys.length c] := Blk.later (Blk.later (Blk.new w 39 #[.int .i64 m.kind, .int .i64 m.queue, .int .i64 m.due, .int .i64 m.retry, .int .i64 m.ref, .int .i64 m.born, .string m.topic, .string m.tag, .string m.body, .slice A m.keys.length c]) (by repeat (first | exact Below.refl _ _ | apply balloc | apply bdrew | apply bdrewN))) hb
       have hc3 := b3.cell))
  go_quiet (fail)
  go_wp2_with (first
    | (go_at_call 9; refine (awake_any _).mono ?_; rintro e w' ⟨rfl, rfl⟩)
    | (go_at_call 20; refine (great_any m A c (w.heap.size + 2) _ (HL.out.below (by repeat (first | exact Below.refl _ _ | apply balloc | apply bdrew | apply bdrewN))) (blk_at (Blk.new _ _ _) (by simp))).mono ?_; rintro e w1 ⟨rfl, hb⟩
       have HB1 : Below w.heap.size w w1 := bstep (by repeat (first | exact Below.refl _ _ | apply balloc | apply bdrew | apply bdrewN)) hb
       have b3 : Blk w1 w.heap.size 39 #[.int .i64 m.kind, .int .i64 m.queue, .int .i64 m.due, .int .i64 m.retry, .int .i64 m.ref, .int .i64 m.born, .string m.topic, .string m.tag, .string m.body, .slice A m.keys.length c] := Blk.later (Blk.later (Blk.new w 39 #[.int .i64 m.kind, .int .i64 m.queue, .int .i64 m.due, .int .i64 m.retry, .int .i64 m.ref, .int .i64 m.born, .string m.topic, .string m.tag, .string m.body, .slice A m.keys.length c]) (by repeat (first | exact Below.refl _ _ | apply balloc | apply bdrew | apply bdrewN))) hb
       have hc3 := b3.cell)
    | (go_at_call 21; refine (ag_d m A c id g now _ (HL.out.below HB1) hn HS.out (by omega) f0 HM.out HT.out f3).mono ?_; rintro e w2 ⟨A2, c2, rfl, hrow, hb⟩
       have HB2 : Below w.heap.size w w2 := bstep HB1 hb
       have b32 := b3.later hb
       have HG0 : w.heap.size < w2.heap.size := b32.lt
       clear hc3
       have hc3 := b32.cell
       have hA : Below w2.heap.size w2 (w2.alloc (.cells #[.int .i64 1, .int .i64 0, .int .i64 0, .int .i64 m.retry, .int .i64 0, .int .i64 now, .string (ownB (B deadL) g), .string m.tag, .string m.body, .slice A2 m.keys.length c2] 39)) := balloc (Below.refl _ _)
       have HBa : Below w.heap.size w (w2.alloc (.cells #[.int .i64 1, .int .i64 0, .int .i64 0, .int .i64 m.retry, .int .i64 0, .int .i64 now, .string (ownB (B deadL) g), .string m.tag, .string m.body, .slice A2 m.keys.length c2] 39)) := bstep HB2 hA
       have b3a := b32.later hA
       have bXa : Blk (w2.alloc (.cells #[.int .i64 1, .int .i64 0, .int .i64 0, .int .i64 m.retry, .int .i64 0, .int .i64 now, .string (ownB (B deadL) g), .string m.tag, .string m.body, .slice A2 m.keys.length c2] 39)) w2.heap.size 39 #[.int .i64 1, .int .i64 0, .int .i64 0, .int .i64 m.retry, .int .i64 0, .int .i64 now, .string (ownB (B deadL) g), .string m.tag, .string m.body, .slice A2 m.keys.length c2] := Blk.new _ _ _
       have hrowa := Lib.hid (ownsRow_later hrow hA)
       clear hrow)
    | (go_at_call 23; refine (rGroup_any _ _ (by omega)).mono ?_; rintro e w' ⟨rfl, rfl⟩)
    | (go_at_call 25; refine (rright_any m A c _ (HL.out.below HBa) HS.out hz1 hz2 hz3).mono ?_; rintro e w3 ⟨rfl, hb⟩
       have HB3 : Below w.heap.size w w3 := bstep HBa hb
       have b33 := b3a.later hb
       have bX3 := bXa.later hb
       have hrow3 := Lib.hid (ownsRow_later hrowa.out hb)
       have HG1 : w.heap.size < w3.heap.size := b33.lt
       have HG2 : w2.heap.size < w3.heap.size := bX3.lt
       clear hc3
       have hc3 := b33.cell
       have hcX := bX3.cell)
    | (go_at_call 22; refine (small_any _ _).mono ?_; rintro e w' ⟨rfl, rfl⟩))
  obtain ⟨hsame, hright⟩ := HQ.out
  have hA4 : Below w3.heap.size w3 (w3.alloc (.cells #[.int .i64 1, .int .i64 0, .int .i64 0, .int .i64 m.retry, .int .i64 0, .int .i64 now, .string (⟨#[37, 100, 101, 97, 100, 37]⟩ ++ g), .string m.tag, .string m.body, .slice A m.keys.length c] 39)) := balloc (Below.refl _ _)
  have bX4 := bX3.later hA4
  have bW4 : Blk (w3.alloc (.cells #[.int .i64 1, .int .i64 0, .int .i64 0, .int .i64 m.retry, .int .i64 0, .int .i64 now, .string (⟨#[37, 100, 101, 97, 100, 37]⟩ ++ g), .string m.tag, .string m.body, .slice A m.keys.length c] 39)) w3.heap.size 39 #[.int .i64 1, .int .i64 0, .int .i64 0, .int .i64 m.retry, .int .i64 0, .int .i64 now, .string (⟨#[37, 100, 101, 97, 100, 37]⟩ ++ g), .string m.tag, .string m.body, .slice A m.keys.length c] := Blk.new _ _ _
  have HB4 : Below w.heap.size w (w3.alloc (.cells #[.int .i64 1, .int .i64 0, .int .i64 0, .int .i64 m.retry, .int .i64 0, .int .i64 now, .string (⟨#[37, 100, 101, 97, 100, 37]⟩ ++ g), .string m.tag, .string m.body, .slice A m.keys.length c] 39)) := bstep HB3 hA4
  have HC4 := hA4
  refine wp_region_held_drew (S := fun W => Blk W w2.heap.size 39 #[.int .i64 1, .int .i64 0, .int .i64 0, .int .i64 m.retry, .int .i64 0, .int .i64 now, .string (ownB (B deadL) g), .string m.tag, .string m.body, .slice A2 m.keys.length c2] ∧ Blk W w3.heap.size 39 #[.int .i64 1, .int .i64 0, .int .i64 0, .int .i64 m.retry, .int .i64 0, .int .i64 now, .string (⟨#[37, 100, 101, 97, 100, 37]⟩ ++ g), .string m.tag, .string m.body, .slice A m.keys.length c] ∧ Below w.heap.size w W ∧ Below w3.heap.size w3 W) (by kernel_rfl) ?_ (fun hHeld => ?_)
  · exact ⟨bX4.drewN 1, bW4.drewN 1, bdrew HB4, bdrew HC4⟩
  refine wpAnyH_take (i := 0) (v := ?_) rfl (by kernel_rfl) (by kernel_rfl) (by kernel_rfl) (fun _ _ _ h => h) (Or.inl ⟨by rfl, ?_⟩) (by assumption) ?_
  rotate_left
  · intro W hSw
    have hq9 := hSw.1.cell
    have hq12 := hSw.2.1.cell
    clear hSw
    go_simp
    (try with_reducible rfl)
  (try simp only [Act.put, List.getElem_toArray, List.getElem_cons_succ, List.getElem_cons_zero, List.setIfInBounds_toArray, List.set_cons_zero, List.set_cons_succ])
  refine wpAnyH_take (i := 1) (v := ?_) rfl (by kernel_rfl) (by kernel_rfl) (by kernel_rfl) (fun _ _ _ h => h) (Or.inl ⟨by rfl, ?_⟩) (by assumption) ?_
  rotate_left
  · intro W hSw
    have hq9 := hSw.1.cell
    have hq12 := hSw.2.1.cell
    clear hSw
    go_simp
    (try with_reducible rfl)
  (try simp only [Act.put, List.getElem_toArray, List.getElem_cons_succ, List.getElem_cons_zero, List.setIfInBounds_toArray, List.set_cons_zero, List.set_cons_succ])
  refine wpAnyH_take (i := 2) (v := ?_) rfl (by kernel_rfl) (by kernel_rfl) (by kernel_rfl) (fun _ _ _ h => h) (Or.inl ⟨by rfl, ?_⟩) (by assumption) ?_
  rotate_left
  · intro W hSw
    have hq9 := hSw.1.cell
    have hq12 := hSw.2.1.cell
    clear hSw
    go_simp
    (try with_reducible rfl)
  (try simp only [Act.put, List.getElem_toArray, List.getElem_cons_succ, List.getElem_cons_zero, List.setIfInBounds_toArray, List.set_cons_zero, List.set_cons_succ])
  refine wpAnyH_take (i := 3) (v := ?_) rfl (by kernel_rfl) (by kernel_rfl) (by kernel_rfl) (fun _ _ _ h => h) (Or.inl ⟨by rfl, ?_⟩) (by assumption) ?_
  rotate_left
  · intro W hSw
    have hq9 := hSw.1.cell
    have hq12 := hSw.2.1.cell
    clear hSw
    go_simp
    (try with_reducible rfl)
  (try simp only [Act.put, List.getElem_toArray, List.getElem_cons_succ, List.getElem_cons_zero, List.setIfInBounds_toArray, List.set_cons_zero, List.set_cons_succ])
  refine wpAnyH_take (i := 4) (v := ?_) rfl (by kernel_rfl) (by kernel_rfl) (by kernel_rfl) (fun _ _ _ h => h) (Or.inl ⟨by rfl, ?_⟩) (by assumption) ?_
  rotate_left
  · intro W hSw
    have hq9 := hSw.1.cell
    have hq12 := hSw.2.1.cell
    clear hSw
    go_simp
    (try with_reducible rfl)
  (try simp only [Act.put, List.getElem_toArray, List.getElem_cons_succ, List.getElem_cons_zero, List.setIfInBounds_toArray, List.set_cons_zero, List.set_cons_succ])
  refine wpAnyH_ready (rs := [5]) (by kernel_rfl) (by simp) ?_
  refine AllReadyH.cons rfl (fun K hK => ?_) AllReadyH.nil
  rw [if_pos (by rfl)]
  simp only [List.getElem_toArray, List.getElem_cons_succ, List.getElem_cons_zero]
  go_simp
  go_at_call 24
  have hcall := rSame_any (deadM m g now) (wantD m g now) A2 A c2 c _ ((Strs.of_row hrow3.out).below hHeld.2.2.2) (HL.out.below hHeld.2.2.1) (by show m.keys.length ≤ _; omega) (by show m.keys.length ≤ _; omega)
  rw [hsame] at hcall
  refine hcall.mono ?_
  clear hcall
  rintro e w6 ⟨rfl, hb⟩
  dsimp only
  refine hK.out _ _ ?_ (fun hHeld2 => ?_)
  · exact ⟨hHeld.1.later hb, hHeld.2.1.later hb, bstep hHeld.2.2.1 hb, bstep hHeld.2.2.2 hb⟩
  clear hK K hHeld
  have hHeld := hHeld2
  clear hHeld2
  (try simp only [Act.put, List.getElem_toArray, List.getElem_cons_succ, List.getElem_cons_zero, List.setIfInBounds_toArray, List.set_cons_zero, List.set_cons_succ])
  refine wpAnyH_take (i := 6) (v := ?_) rfl (by kernel_rfl) (by kernel_rfl) (by kernel_rfl) (fun _ _ _ h => h) (Or.inl ⟨by rfl, ?_⟩) (by assumption) ?_
  rotate_left
  · intro W hSw
    have hq9 := hSw.1.cell
    have hq12 := hSw.2.1.cell
    clear hSw
    go_simp
    (try with_reducible rfl)
  (try simp only [Act.put, List.getElem_toArray, List.getElem_cons_succ, List.getElem_cons_zero, List.setIfInBounds_toArray, List.set_cons_zero, List.set_cons_succ])
  refine wpAnyH_take (i := 7) (v := ?_) rfl (by kernel_rfl) (by kernel_rfl) (by kernel_rfl) (fun _ _ _ h => h) (Or.inl ⟨by rfl, ?_⟩) (by assumption) ?_
  rotate_left
  · intro W hSw
    have hq9 := hSw.1.cell
    have hq12 := hSw.2.1.cell
    clear hSw
    go_simp
    (try with_reducible rfl)
  (try simp only [Act.put, List.getElem_toArray, List.getElem_cons_succ, List.getElem_cons_zero, List.setIfInBounds_toArray, List.set_cons_zero, List.set_cons_succ])
  refine wpAnyH_take (i := 8) (v := ?_) rfl (by kernel_rfl) (by kernel_rfl) (by kernel_rfl) (fun _ _ _ h => h) (Or.inl ⟨by rfl, ?_⟩) (by assumption) ?_
  rotate_left
  · intro W hSw
    have hq9 := hSw.1.cell
    have hq12 := hSw.2.1.cell
    clear hSw
    go_simp
    (try with_reducible rfl)
  (try simp only [Act.put, List.getElem_toArray, List.getElem_cons_succ, List.getElem_cons_zero, List.setIfInBounds_toArray, List.set_cons_zero, List.set_cons_succ])
  refine wpAnyH_ready (rs := [9]) (by kernel_rfl) (by simp) ?_
  refine AllReadyH.cons rfl (fun K hK => ?_) AllReadyH.nil
  rw [if_pos (by rfl)]
  simp only [List.getElem_toArray, List.getElem_cons_succ, List.getElem_cons_zero]
  go_simp
  go_at_call 25
  have hcall := rright_any (deadM m g now) A2 c2 _ ((Strs.of_row hrow3.out).below hHeld.2.2.2) HS.out (by show (ownB _ _).size ≤ _; omega) hz2 hz3
  rw [hright] at hcall
  refine hcall.mono ?_
  clear hcall
  rintro e w7 ⟨rfl, hb⟩
  dsimp only
  refine hK.out _ _ ?_ (fun hHeld2 => ?_)
  · exact ⟨hHeld.1.later hb, hHeld.2.1.later hb, bstep hHeld.2.2.1 hb, bstep hHeld.2.2.2 hb⟩
  clear hK K hHeld
  have hHeld := hHeld2
  clear hHeld2
  (try simp only [Act.put, List.getElem_toArray, List.getElem_cons_succ, List.getElem_cons_zero, List.setIfInBounds_toArray, List.set_cons_zero, List.set_cons_succ])
  refine wpAnyH_take (i := 10) (v := ?_) rfl (by kernel_rfl) (by kernel_rfl) (by kernel_rfl) (fun _ _ _ h => h) (Or.inl ⟨by rfl, ?_⟩) (by assumption) ?_
  rotate_left
  · intro W hSw
    have hq9 := hSw.1.cell
    have hq12 := hSw.2.1.cell
    clear hSw
    go_simp
    (try with_reducible rfl)
  (try simp only [Act.put, List.getElem_toArray, List.getElem_cons_succ, List.getElem_cons_zero, List.setIfInBounds_toArray, List.set_cons_zero, List.set_cons_succ])
  refine wpAnyH_take (i := 11) (v := ?_) rfl (by kernel_rfl) (by kernel_rfl) (by kernel_rfl) (fun _ _ _ h => h) (Or.inl ⟨by rfl, ?_⟩) (by assumption) ?_
  rotate_left
  · intro W hSw
    have hq9 := hSw.1.cell
    have hq12 := hSw.2.1.cell
    clear hSw
    go_simp
    (try with_reducible rfl)
  (try simp only [Act.put, List.getElem_toArray, List.getElem_cons_succ, List.getElem_cons_zero, List.setIfInBounds_toArray, List.set_cons_zero, List.set_cons_succ])
  refine wpAnyH_take (i := 12) (v := ?_) rfl (by kernel_rfl) (by kernel_rfl) (by kernel_rfl) (fun _ _ _ h => h) (Or.inl ⟨by rfl, ?_⟩) (by assumption) ?_
  rotate_left
  · intro W hSw
    have hq9 := hSw.1.cell
    have hq12 := hSw.2.1.cell
    clear hSw
    go_simp
    (try with_reducible rfl)
  (try simp only [Act.put, List.getElem_toArray, List.getElem_cons_succ, List.getElem_cons_zero, List.setIfInBounds_toArray, List.set_cons_zero, List.set_cons_succ])
  refine wpAnyH_take (i := 13) (v := ?_) rfl (by kernel_rfl) (by kernel_rfl) (by kernel_rfl) (fun _ _ _ h => h) (Or.inl ⟨by rfl, ?_⟩) (by assumption) ?_
  rotate_left
  · intro W hSw
    have hq9 := hSw.1.cell
    have hq12 := hSw.2.1.cell
    clear hSw
    go_simp
    (try with_reducible rfl)
  (try simp only [Act.put, List.getElem_toArray, List.getElem_cons_succ, List.getElem_cons_zero, List.setIfInBounds_toArray, List.set_cons_zero, List.set_cons_succ])
  refine wpAnyH_take (i := 14) (v := ?_) rfl (by kernel_rfl) (by kernel_rfl) (by kernel_rfl) (fun _ _ _ h => h) (Or.inl ⟨by rfl, ?_⟩) (by assumption) ?_
  rotate_left
  · intro W hSw
    have hq9 := hSw.1.cell
    have hq12 := hSw.2.1.cell
    clear hSw
    go_simp
    (try with_reducible rfl)
  (try simp only [Act.put, List.getElem_toArray, List.getElem_cons_succ, List.getElem_cons_zero, List.setIfInBounds_toArray, List.set_cons_zero, List.set_cons_succ])
  refine wpAnyH_take (i := 15) (v := ?_) rfl (by kernel_rfl) (by kernel_rfl) (by kernel_rfl) (fun _ _ _ h => h) (Or.inl ⟨by rfl, ?_⟩) (by assumption) ?_
  rotate_left
  · intro W hSw
    have hq9 := hSw.1.cell
    have hq12 := hSw.2.1.cell
    clear hSw
    go_simp
    (try with_reducible rfl)
  (try simp only [Act.put, List.getElem_toArray, List.getElem_cons_succ, List.getElem_cons_zero, List.setIfInBounds_toArray, List.set_cons_zero, List.set_cons_succ])
  refine wpAnyH_take (i := 16) (v := undef) rfl (by kernel_rfl) (by kernel_rfl) (by kernel_rfl) (fun _ _ _ h => h) (Or.inr ⟨by rfl, rfl⟩) (by assumption) ?_
  (try simp only [Act.put, List.getElem_toArray, List.getElem_cons_succ, List.getElem_cons_zero, List.setIfInBounds_toArray, List.set_cons_zero, List.set_cons_succ])
  refine wpAnyH_take (i := 17) (v := undef) rfl (by kernel_rfl) (by kernel_rfl) (by kernel_rfl) (fun _ _ _ h => h) (Or.inr ⟨by rfl, rfl⟩) (by assumption) ?_
  (try simp only [Act.put, List.getElem_toArray, List.getElem_cons_succ, List.getElem_cons_zero, List.setIfInBounds_toArray, List.set_cons_zero, List.set_cons_succ])
  refine wpAnyH_take (i := 18) (v := undef) rfl (by kernel_rfl) (by kernel_rfl) (by kernel_rfl) (fun _ _ _ h => h) (Or.inr ⟨by rfl, rfl⟩) (by assumption) ?_
  (try simp only [Act.put, List.getElem_toArray, List.getElem_cons_succ, List.getElem_cons_zero, List.setIfInBounds_toArray, List.set_cons_zero, List.set_cons_succ])
  refine wpAnyH_take (i := 19) (v := undef) rfl (by kernel_rfl) (by kernel_rfl) (by kernel_rfl) (fun _ _ _ h => h) (Or.inr ⟨by rfl, rfl⟩) (by assumption) ?_
  (try simp only [Act.put, List.getElem_toArray, List.getElem_cons_succ, List.getElem_cons_zero, List.setIfInBounds_toArray, List.set_cons_zero, List.set_cons_succ])
  refine wpAnyH_take (i := 20) (v := undef) rfl (by kernel_rfl) (by kernel_rfl) (by kernel_rfl) (fun _ _ _ h => h) (Or.inr ⟨by rfl, rfl⟩) (by assumption) ?_
  (try simp only [Act.put, List.getElem_toArray, List.getElem_cons_succ, List.getElem_cons_zero, List.setIfInBounds_toArray, List.set_cons_zero, List.set_cons_succ])
  refine wpAnyH_take (i := 21) (v := undef) rfl (by kernel_rfl) (by kernel_rfl) (by kernel_rfl) (fun _ _ _ h => h) (Or.inr ⟨by rfl, rfl⟩) (by assumption) ?_
  (try simp only [Act.put, List.getElem_toArray, List.getElem_cons_succ, List.getElem_cons_zero, List.setIfInBounds_toArray, List.set_cons_zero, List.set_cons_succ])
  refine wpAnyH_take (i := 22) (v := undef) rfl (by kernel_rfl) (by kernel_rfl) (by kernel_rfl) (fun _ _ _ h => h) (Or.inr ⟨by rfl, rfl⟩) (by assumption) ?_
  (try simp only [Act.put, List.getElem_toArray, List.getElem_cons_succ, List.getElem_cons_zero, List.setIfInBounds_toArray, List.set_cons_zero, List.set_cons_succ])
  refine wpAnyH_take (i := 23) (v := undef) rfl (by kernel_rfl) (by kernel_rfl) (by kernel_rfl) (fun _ _ _ h => h) (Or.inr ⟨by rfl, rfl⟩) (by assumption) ?_
  (try simp only [Act.put, List.getElem_toArray, List.getElem_cons_succ, List.getElem_cons_zero, List.setIfInBounds_toArray, List.set_cons_zero, List.set_cons_succ])
  refine wpAnyH_take (i := 24) (v := ?_) rfl (by kernel_rfl) (by kernel_rfl) (by kernel_rfl) (fun _ _ _ h => h) (Or.inl ⟨by rfl, ?_⟩) (by assumption) ?_
  rotate_left
  · intro W hSw
    have hq9 := hSw.1.cell
    have hq12 := hSw.2.1.cell
    clear hSw
    go_simp
    (try with_reducible rfl)
  (try simp only [Act.put, List.getElem_toArray, List.getElem_cons_succ, List.getElem_cons_zero, List.setIfInBounds_toArray, List.set_cons_zero, List.set_cons_succ])
  refine wpAnyH_take (i := 25) (v := ?_) rfl (by kernel_rfl) (by kernel_rfl) (by kernel_rfl) (fun _ _ _ h => h) (Or.inl ⟨by rfl, ?_⟩) (by assumption) ?_
  rotate_left
  · intro W hSw
    have hq9 := hSw.1.cell
    have hq12 := hSw.2.1.cell
    clear hSw
    go_simp
    (try with_reducible rfl)
  (try simp only [Act.put, List.getElem_toArray, List.getElem_cons_succ, List.getElem_cons_zero, List.setIfInBounds_toArray, List.set_cons_zero, List.set_cons_succ])
  refine wpAnyH_take (i := 26) (v := ?_) rfl (by kernel_rfl) (by kernel_rfl) (by kernel_rfl) (fun _ _ _ h => h) (Or.inl ⟨by rfl, ?_⟩) (by assumption) ?_
  rotate_left
  · intro W hSw
    have hq9 := hSw.1.cell
    have hq12 := hSw.2.1.cell
    clear hSw
    go_simp
    (try with_reducible rfl)
  (try simp only [Act.put, List.getElem_toArray, List.getElem_cons_succ, List.getElem_cons_zero, List.setIfInBounds_toArray, List.set_cons_zero, List.set_cons_succ])
  refine wpAnyH_done (by kernel_rfl) ?_ _
  go_wp2
  go_ret
  exact ⟨rfl, hHeld.2.2.1⟩


set_option maxRecDepth 100000 in
set_option maxHeartbeats 8000000 in
theorem la_y1 (m : Msg) (A : Option Addr) (c : Nat) (id : Int) (g : ByteArray) (now : Int) (w : World) (hl : Strs w A m.keys) (wi : (Lit.int .i64 id).wf = true) (wn : (Lit.int .i64 now).wf = true) (hG : greatM m = false) (hS : decide ((100 : Int) < (g.size : Int)) = false) (f0 : groupL (L g) = true) (f1 : rightM m = true) (k1 : (m.kind == 1) = true) (k3 : (m.kind == 3) = false) (n1 : (m.kind != 1) = false) (n3 : (m.kind != 3) = true) (t0 : okT id = true) (t1 : okT now = true) (f3 : decide (m.retry < 4) = true) :
    Calls Try.prog 5 #[.agg #[.int .i64 m.kind, .int .i64 m.queue, .int .i64 m.due, .int .i64 m.retry, .int .i64 m.ref, .int .i64 m.born, .string m.topic, .string m.tag, .string m.body, .slice A m.keys.length c], .string g, .agg #[.int .i64 id, .int .i64 now]] w fun e w' => e = .returned (.bool true) ∧ Below w.heap.size w w' := by
  obtain ⟨hn, hs, -, hzb, hzt, hzg⟩ := great_low hG
  have HS := Lib.hid hs
  have hgz : g.size ≤ 100 := by simp at hS; omega
  have hz1 : m.topic.size ≤ 9223372036854775807 := by omega
  have hz2 : m.tag.size ≤ 9223372036854775807 := by omega
  have hz3 : m.body.size ≤ 9223372036854775806 := by omega
  clear hs
  have hM0 : mayM m = true := by simp only [mayM, f1, k1, k3]; rfl
  have HM := Lib.hid hM0
  have HT := Lib.hid (show allI okT [id, now] = true by simp [allI, t0, t1])
  have hcar := right_carries f1 (by first | exact Or.inl k1 | exact Or.inr k3)
  have hri : 0 ≤ id ∧ id ≤ 1099511626776 := by simp [okT] at t0; omega
  have hrn : 0 ≤ now ∧ now ≤ 1099511626776 := by simp [okT] at t1; omega
  obtain ⟨hrlo, hrhi⟩ := carries_retry m hcar
  clear hM0
  have h4 : m.retry < 4 := by simpa using f3
  have hsame := (show sameM (retryM m id g now) (wantY m id g now) = true by rw [wantY_eq f0]; exact sameM_self _)
  have hright := right_retryM (m := m) (id := id) (now := now) f0 hcar hrn.1 hrn.2 hri.1 hri.2 h4
  have hzo : (ownB (B retryL) g).size ≤ 1000 := by rw [← ownB_yes f0, ByteArray.size_append, B_size]; simp [retryL]; omega
  obtain ⟨hd0, hd1⟩ : 0 ≤ delayN (m.retry + 1) ∧ delayN (m.retry + 1) ≤ 16 := by unfold delayN; omega
  have hdl := fun h => delays_get hrlo h4 h
  have hw1 : IntKind.i64.wrap (now + delayN (m.retry + 1) - now) = delayN (m.retry + 1) := by
    have : now + delayN (m.retry + 1) - now = delayN (m.retry + 1) := by omega
    rw [this]; exact IntWalk.i64_in _ (by omega)
  have HQ := Lib.hid (And.intro hsame (And.intro hright hw1))
  clear hsame hright hcar hw1
  have HL := Lib.hid hl
  clear hl
  go_enter Try.func5, Try.ntmps5
  go_wp2_with (first
    | (go_at_call 9; refine (awake_any _).mono ?_; rintro e w' ⟨rfl, rfl⟩)
    | (go_at_call 20; refine (great_any m A c (w.heap.size + 2) _ (HL.out.below (by repeat (first | exact Below.refl _ _ | apply balloc | apply bdrew | apply bdrewN))) (blk_at (Blk.new _ _ _) (by simp))).mono ?_; rintro e w1 ⟨rfl, hb⟩
       have HB1 : Below w.heap.size w w1 := bstep (by repeat (first | exact Below.refl _ _ | apply balloc | apply bdrew | apply bdrewN)) hb
       have b3 : Blk w1 w.heap.size 39 #[.int .i64 m.kind, .int .i64 m.queue, .int .i64 m.due, .int .i64 m.retry, .int .i64 m.ref, .int .i64 m.born, .string m.topic, .string m.tag, .string m.body, .slice A m.keys.length c] := Blk.later (Blk.later (Blk.new w 39 #[.int .i64 m.kind, .int .i64 m.queue, .int .i64 m.due, .int .i64 m.retry, .int .i64 m.ref, .int .i64 m.born, .string m.topic, .string m.tag, .string m.body, .slice A m.keys.length c]) (by repeat (first | exact Below.refl _ _ | apply balloc | apply bdrew | apply bdrewN))) hb
       have hc3 := b3.cell))
  go_quiet (fail)
  go_wp2_with (first
    | (go_at_call 9; refine (awake_any _).mono ?_; rintro e w' ⟨rfl, rfl⟩)
    | (go_at_call 20; refine (great_any m A c (w.heap.size + 2) _ (HL.out.below (by repeat (first | exact Below.refl _ _ | apply balloc | apply bdrew | apply bdrewN))) (blk_at (Blk.new _ _ _) (by simp))).mono ?_; rintro e w1 ⟨rfl, hb⟩
       have HB1 : Below w.heap.size w w1 := bstep (by repeat (first | exact Below.refl _ _ | apply balloc | apply bdrew | apply bdrewN)) hb
       have b3 : Blk w1 w.heap.size 39 #[.int .i64 m.kind, .int .i64 m.queue, .int .i64 m.due, .int .i64 m.retry, .int .i64 m.ref, .int .i64 m.born, .string m.topic, .string m.tag, .string m.body, .slice A m.keys.length c] := Blk.later (Blk.later (Blk.new w 39 #[.int .i64 m.kind, .int .i64 m.queue, .int .i64 m.due, .int .i64 m.retry, .int .i64 m.ref, .int .i64 m.born, .string m.topic, .string m.tag, .string m.body, .slice A m.keys.length c]) (by repeat (first | exact Below.refl _ _ | apply balloc | apply bdrew | apply bdrewN))) hb
       have hc3 := b3.cell)
    | (go_at_call 21; refine (ag_y m A c id g now _ (HL.out.below HB1) hn HS.out (by omega) f0 HM.out HT.out f3).mono ?_; rintro e w2 ⟨A2, c2, rfl, hrow, hb⟩
       have HB2 : Below w.heap.size w w2 := bstep HB1 hb
       have b32 := b3.later hb
       have HG0 : w.heap.size < w2.heap.size := b32.lt
       clear hc3
       have hc3 := b32.cell
       have hA : Below w2.heap.size w2 (w2.alloc (.cells #[.int .i64 2, .int .i64 0, .int .i64 (now + delayN (m.retry + 1)), .int .i64 (m.retry + 1), .int .i64 id, .int .i64 now, .string (ownB (B retryL) g), .string m.tag, .string m.body, .slice A2 m.keys.length c2] 39)) := balloc (Below.refl _ _)
       have HBa : Below w.heap.size w (w2.alloc (.cells #[.int .i64 2, .int .i64 0, .int .i64 (now + delayN (m.retry + 1)), .int .i64 (m.retry + 1), .int .i64 id, .int .i64 now, .string (ownB (B retryL) g), .string m.tag, .string m.body, .slice A2 m.keys.length c2] 39)) := bstep HB2 hA
       have b3a := b32.later hA
       have bXa : Blk (w2.alloc (.cells #[.int .i64 2, .int .i64 0, .int .i64 (now + delayN (m.retry + 1)), .int .i64 (m.retry + 1), .int .i64 id, .int .i64 now, .string (ownB (B retryL) g), .string m.tag, .string m.body, .slice A2 m.keys.length c2] 39)) w2.heap.size 39 #[.int .i64 2, .int .i64 0, .int .i64 (now + delayN (m.retry + 1)), .int .i64 (m.retry + 1), .int .i64 id, .int .i64 now, .string (ownB (B retryL) g), .string m.tag, .string m.body, .slice A2 m.keys.length c2] := Blk.new _ _ _
       have hrowa := Lib.hid (ownsRow_later hrow hA)
       clear hrow)
    | (go_at_call 23; refine (rGroup_any _ _ (by omega)).mono ?_; rintro e w' ⟨rfl, rfl⟩)
    | (go_at_call 25; refine (rright_any m A c _ (HL.out.below HBa) HS.out hz1 hz2 hz3).mono ?_; rintro e w3 ⟨rfl, hb⟩
       have HB3 : Below w.heap.size w w3 := bstep HBa hb
       have b33 := b3a.later hb
       have bX3 := bXa.later hb
       have hrow3 := Lib.hid (ownsRow_later hrowa.out hb)
       have HG1 : w.heap.size < w3.heap.size := b33.lt
       have HG2 : w2.heap.size < w3.heap.size := bX3.lt
       clear hc3
       have hc3 := b33.cell
       have hcX := bX3.cell)
    | (go_at_call 22; refine (small_any _ _).mono ?_; rintro e w' ⟨rfl, rfl⟩))
  obtain ⟨hsame, hright, hw1⟩ := HQ.out
  have hA4 : Below w3.heap.size w3 ((w3.alloc (.cells #[.int .i64 2, .int .i64 0, .int .i64 (now + delayN (m.retry + 1)), .int .i64 (m.retry + 1), .int .i64 id, .int .i64 now, .string (⟨#[37, 114, 101, 116, 114, 121, 37]⟩ ++ g), .string m.tag, .string m.body, .slice A m.keys.length c] 39)).alloc (.cells #[.int .i64 2, .int .i64 4, .int .i64 8, .int .i64 16] 3)) := balloc (balloc (Below.refl _ _))
  have bX4 := bX3.later hA4
  have bW4 : Blk ((w3.alloc (.cells #[.int .i64 2, .int .i64 0, .int .i64 (now + delayN (m.retry + 1)), .int .i64 (m.retry + 1), .int .i64 id, .int .i64 now, .string (⟨#[37, 114, 101, 116, 114, 121, 37]⟩ ++ g), .string m.tag, .string m.body, .slice A m.keys.length c] 39)).alloc (.cells #[.int .i64 2, .int .i64 4, .int .i64 8, .int .i64 16] 3)) w3.heap.size 39 #[.int .i64 2, .int .i64 0, .int .i64 (now + delayN (m.retry + 1)), .int .i64 (m.retry + 1), .int .i64 id, .int .i64 now, .string (⟨#[37, 114, 101, 116, 114, 121, 37]⟩ ++ g), .string m.tag, .string m.body, .slice A m.keys.length c] := heap_alloc2_old w3 _ _
  have HB4 : Below w.heap.size w ((w3.alloc (.cells #[.int .i64 2, .int .i64 0, .int .i64 (now + delayN (m.retry + 1)), .int .i64 (m.retry + 1), .int .i64 id, .int .i64 now, .string (⟨#[37, 114, 101, 116, 114, 121, 37]⟩ ++ g), .string m.tag, .string m.body, .slice A m.keys.length c] 39)).alloc (.cells #[.int .i64 2, .int .i64 4, .int .i64 8, .int .i64 16] 3)) := bstep HB3 hA4
  have HC4 := hA4
  refine wp_region_held_drew (S := fun W => Blk W w2.heap.size 39 #[.int .i64 2, .int .i64 0, .int .i64 (now + delayN (m.retry + 1)), .int .i64 (m.retry + 1), .int .i64 id, .int .i64 now, .string (ownB (B retryL) g), .string m.tag, .string m.body, .slice A2 m.keys.length c2] ∧ Blk W w3.heap.size 39 #[.int .i64 2, .int .i64 0, .int .i64 (now + delayN (m.retry + 1)), .int .i64 (m.retry + 1), .int .i64 id, .int .i64 now, .string (⟨#[37, 114, 101, 116, 114, 121, 37]⟩ ++ g), .string m.tag, .string m.body, .slice A m.keys.length c] ∧ Below w.heap.size w W ∧ Below w3.heap.size w3 W) (by kernel_rfl) ?_ (fun hHeld => ?_)
  · exact ⟨bX4.drewN 1, bW4.drewN 1, bdrew HB4, bdrew HC4⟩
  refine wpAnyH_take (i := 0) (v := ?_) rfl (by kernel_rfl) (by kernel_rfl) (by kernel_rfl) (fun _ _ _ h => h) (Or.inl ⟨by rfl, ?_⟩) (by assumption) ?_
  rotate_left
  · intro W hSw
    have hq9 := hSw.1.cell
    have hq12 := hSw.2.1.cell
    clear hSw
    go_simp
    (try with_reducible rfl)
  (try simp only [Act.put, List.getElem_toArray, List.getElem_cons_succ, List.getElem_cons_zero, List.setIfInBounds_toArray, List.set_cons_zero, List.set_cons_succ])
  refine wpAnyH_take (i := 1) (v := ?_) rfl (by kernel_rfl) (by kernel_rfl) (by kernel_rfl) (fun _ _ _ h => h) (Or.inl ⟨by rfl, ?_⟩) (by assumption) ?_
  rotate_left
  · intro W hSw
    have hq9 := hSw.1.cell
    have hq12 := hSw.2.1.cell
    clear hSw
    go_simp
    (try with_reducible rfl)
  (try simp only [Act.put, List.getElem_toArray, List.getElem_cons_succ, List.getElem_cons_zero, List.setIfInBounds_toArray, List.set_cons_zero, List.set_cons_succ])
  refine wpAnyH_take (i := 2) (v := ?_) rfl (by kernel_rfl) (by kernel_rfl) (by kernel_rfl) (fun _ _ _ h => h) (Or.inl ⟨by rfl, ?_⟩) (by assumption) ?_
  rotate_left
  · intro W hSw
    have hq9 := hSw.1.cell
    have hq12 := hSw.2.1.cell
    clear hSw
    go_simp
    (try with_reducible rfl)
  (try simp only [Act.put, List.getElem_toArray, List.getElem_cons_succ, List.getElem_cons_zero, List.setIfInBounds_toArray, List.set_cons_zero, List.set_cons_succ])
  refine wpAnyH_take (i := 3) (v := ?_) rfl (by kernel_rfl) (by kernel_rfl) (by kernel_rfl) (fun _ _ _ h => h) (Or.inl ⟨by rfl, ?_⟩) (by assumption) ?_
  rotate_left
  · intro W hSw
    have hq9 := hSw.1.cell
    have hq12 := hSw.2.1.cell
    clear hSw
    go_simp
    (try with_reducible rfl)
  (try simp only [Act.put, List.getElem_toArray, List.getElem_cons_succ, List.getElem_cons_zero, List.setIfInBounds_toArray, List.set_cons_zero, List.set_cons_succ])
  refine wpAnyH_take (i := 4) (v := ?_) rfl (by kernel_rfl) (by kernel_rfl) (by kernel_rfl) (fun _ _ _ h => h) (Or.inl ⟨by rfl, ?_⟩) (by assumption) ?_
  rotate_left
  · intro W hSw
    have hq9 := hSw.1.cell
    have hq12 := hSw.2.1.cell
    clear hSw
    go_simp
    (try with_reducible rfl)
  (try simp only [Act.put, List.getElem_toArray, List.getElem_cons_succ, List.getElem_cons_zero, List.setIfInBounds_toArray, List.set_cons_zero, List.set_cons_succ])
  refine wpAnyH_ready (rs := [5]) (by kernel_rfl) (by simp) ?_
  refine AllReadyH.cons rfl (fun K hK => ?_) AllReadyH.nil
  rw [if_pos (by rfl)]
  simp only [List.getElem_toArray, List.getElem_cons_succ, List.getElem_cons_zero]
  go_simp
  go_at_call 24
  have hcall := rSame_any (retryM m id g now) (wantY m id g now) A2 A c2 c _ ((Strs.of_row hrow3.out).below hHeld.2.2.2) (HL.out.below hHeld.2.2.1) (by show m.keys.length ≤ _; omega) (by show m.keys.length ≤ _; omega)
  rw [hsame] at hcall
  refine hcall.mono ?_
  clear hcall
  rintro e w6 ⟨rfl, hb⟩
  dsimp only
  refine hK.out _ _ ?_ (fun hHeld2 => ?_)
  · exact ⟨hHeld.1.later hb, hHeld.2.1.later hb, bstep hHeld.2.2.1 hb, bstep hHeld.2.2.2 hb⟩
  clear hK K hHeld
  have hHeld := hHeld2
  clear hHeld2
  (try simp only [Act.put, List.getElem_toArray, List.getElem_cons_succ, List.getElem_cons_zero, List.setIfInBounds_toArray, List.set_cons_zero, List.set_cons_succ])
  refine wpAnyH_take (i := 6) (v := ?_) rfl (by kernel_rfl) (by kernel_rfl) (by kernel_rfl) (fun _ _ _ h => h) (Or.inl ⟨by rfl, ?_⟩) (by assumption) ?_
  rotate_left
  · intro W hSw
    have hq9 := hSw.1.cell
    have hq12 := hSw.2.1.cell
    clear hSw
    go_simp
    (try with_reducible rfl)
  (try simp only [Act.put, List.getElem_toArray, List.getElem_cons_succ, List.getElem_cons_zero, List.setIfInBounds_toArray, List.set_cons_zero, List.set_cons_succ])
  refine wpAnyH_take (i := 7) (v := ?_) rfl (by kernel_rfl) (by kernel_rfl) (by kernel_rfl) (fun _ _ _ h => h) (Or.inl ⟨by rfl, ?_⟩) (by assumption) ?_
  rotate_left
  · intro W hSw
    have hq9 := hSw.1.cell
    have hq12 := hSw.2.1.cell
    clear hSw
    go_simp
    (try with_reducible rfl)
  (try simp only [Act.put, List.getElem_toArray, List.getElem_cons_succ, List.getElem_cons_zero, List.setIfInBounds_toArray, List.set_cons_zero, List.set_cons_succ])
  refine wpAnyH_take (i := 8) (v := ?_) rfl (by kernel_rfl) (by kernel_rfl) (by kernel_rfl) (fun _ _ _ h => h) (Or.inl ⟨by rfl, ?_⟩) (by assumption) ?_
  rotate_left
  · intro W hSw
    have hq9 := hSw.1.cell
    have hq12 := hSw.2.1.cell
    clear hSw
    go_simp
    (try with_reducible rfl)
  (try simp only [Act.put, List.getElem_toArray, List.getElem_cons_succ, List.getElem_cons_zero, List.setIfInBounds_toArray, List.set_cons_zero, List.set_cons_succ])
  refine wpAnyH_ready (rs := [9]) (by kernel_rfl) (by simp) ?_
  refine AllReadyH.cons rfl (fun K hK => ?_) AllReadyH.nil
  rw [if_pos (by rfl)]
  simp only [List.getElem_toArray, List.getElem_cons_succ, List.getElem_cons_zero]
  go_simp
  go_at_call 25
  have hcall := rright_any (retryM m id g now) A2 c2 _ ((Strs.of_row hrow3.out).below hHeld.2.2.2) HS.out (by show (ownB _ _).size ≤ _; omega) hz2 hz3
  rw [hright] at hcall
  refine hcall.mono ?_
  clear hcall
  rintro e w7 ⟨rfl, hb⟩
  dsimp only
  refine hK.out _ _ ?_ (fun hHeld2 => ?_)
  · exact ⟨hHeld.1.later hb, hHeld.2.1.later hb, bstep hHeld.2.2.1 hb, bstep hHeld.2.2.2 hb⟩
  clear hK K hHeld
  have hHeld := hHeld2
  clear hHeld2
  (try simp only [Act.put, List.getElem_toArray, List.getElem_cons_succ, List.getElem_cons_zero, List.setIfInBounds_toArray, List.set_cons_zero, List.set_cons_succ])
  refine wpAnyH_take (i := 10) (v := ?_) rfl (by kernel_rfl) (by kernel_rfl) (by kernel_rfl) (fun _ _ _ h => h) (Or.inl ⟨by rfl, ?_⟩) (by assumption) ?_
  rotate_left
  · intro W hSw
    have hq9 := hSw.1.cell
    have hq12 := hSw.2.1.cell
    clear hSw
    go_simp
    (try with_reducible rfl)
  (try simp only [Act.put, List.getElem_toArray, List.getElem_cons_succ, List.getElem_cons_zero, List.setIfInBounds_toArray, List.set_cons_zero, List.set_cons_succ])
  refine wpAnyH_take (i := 11) (v := ?_) rfl (by kernel_rfl) (by kernel_rfl) (by kernel_rfl) (fun _ _ _ h => h) (Or.inl ⟨by rfl, ?_⟩) (by assumption) ?_
  rotate_left
  · intro W hSw
    have hq9 := hSw.1.cell
    have hq12 := hSw.2.1.cell
    clear hSw
    go_simp
    (try with_reducible rfl)
  (try simp only [Act.put, List.getElem_toArray, List.getElem_cons_succ, List.getElem_cons_zero, List.setIfInBounds_toArray, List.set_cons_zero, List.set_cons_succ])
  refine wpAnyH_take (i := 12) (v := ?_) rfl (by kernel_rfl) (by kernel_rfl) (by kernel_rfl) (fun _ _ _ h => h) (Or.inl ⟨by rfl, ?_⟩) (by assumption) ?_
  rotate_left
  · intro W hSw
    have hq9 := hSw.1.cell
    have hq12 := hSw.2.1.cell
    clear hSw
    go_simp
    (try with_reducible rfl)
  (try simp only [Act.put, List.getElem_toArray, List.getElem_cons_succ, List.getElem_cons_zero, List.setIfInBounds_toArray, List.set_cons_zero, List.set_cons_succ])
  refine wpAnyH_take (i := 13) (v := ?_) rfl (by kernel_rfl) (by kernel_rfl) (by kernel_rfl) (fun _ _ _ h => h) (Or.inl ⟨by rfl, ?_⟩) (by assumption) ?_
  rotate_left
  · intro W hSw
    have hq9 := hSw.1.cell
    have hq12 := hSw.2.1.cell
    clear hSw
    go_simp
    (try with_reducible rfl)
  (try simp only [Act.put, List.getElem_toArray, List.getElem_cons_succ, List.getElem_cons_zero, List.setIfInBounds_toArray, List.set_cons_zero, List.set_cons_succ])
  refine wpAnyH_take (i := 14) (v := ?_) rfl (by kernel_rfl) (by kernel_rfl) (by kernel_rfl) (fun _ _ _ h => h) (Or.inl ⟨by rfl, ?_⟩) (by assumption) ?_
  rotate_left
  · intro W hSw
    have hq9 := hSw.1.cell
    have hq12 := hSw.2.1.cell
    clear hSw
    go_simp
    (try with_reducible rfl)
  (try simp only [Act.put, List.getElem_toArray, List.getElem_cons_succ, List.getElem_cons_zero, List.setIfInBounds_toArray, List.set_cons_zero, List.set_cons_succ])
  refine wpAnyH_take (i := 15) (v := ?_) rfl (by kernel_rfl) (by kernel_rfl) (by kernel_rfl) (fun _ _ _ h => h) (Or.inl ⟨by rfl, ?_⟩) (by assumption) ?_
  rotate_left
  · intro W hSw
    have hq9 := hSw.1.cell
    have hq12 := hSw.2.1.cell
    clear hSw
    go_simp
    (try with_reducible rfl)
  (try simp only [Act.put, List.getElem_toArray, List.getElem_cons_succ, List.getElem_cons_zero, List.setIfInBounds_toArray, List.set_cons_zero, List.set_cons_succ])
  refine wpAnyH_take (i := 16) (v := ?_) rfl (by kernel_rfl) (by kernel_rfl) (by kernel_rfl) (fun _ _ _ h => h) (Or.inl ⟨by rfl, ?_⟩) (by assumption) ?_
  rotate_left
  · intro W hSw
    have hq9 := hSw.1.cell
    have hq12 := hSw.2.1.cell
    clear hSw
    go_simp
    (try with_reducible rfl)
  (try simp only [Act.put, List.getElem_toArray, List.getElem_cons_succ, List.getElem_cons_zero, List.setIfInBounds_toArray, List.set_cons_zero, List.set_cons_succ])
  refine wpAnyH_take (i := 17) (v := ?_) rfl (by kernel_rfl) (by kernel_rfl) (by kernel_rfl) (fun _ _ _ h => h) (Or.inl ⟨by rfl, ?_⟩) (by assumption) ?_
  rotate_left
  · intro W hSw
    have hq9 := hSw.1.cell
    have hq12 := hSw.2.1.cell
    clear hSw
    go_simp
    (try with_reducible rfl)
  (try simp only [Act.put, List.getElem_toArray, List.getElem_cons_succ, List.getElem_cons_zero, List.setIfInBounds_toArray, List.set_cons_zero, List.set_cons_succ])
  refine wpAnyH_take (i := 18) (v := ?_) rfl (by kernel_rfl) (by kernel_rfl) (by kernel_rfl) (fun _ _ _ h => h) (Or.inl ⟨by rfl, ?_⟩) (by assumption) ?_
  rotate_left
  · intro W hSw
    have hq9 := hSw.1.cell
    have hq12 := hSw.2.1.cell
    clear hSw
    go_simp
    (try with_reducible rfl)
  (try simp only [Act.put, List.getElem_toArray, List.getElem_cons_succ, List.getElem_cons_zero, List.setIfInBounds_toArray, List.set_cons_zero, List.set_cons_succ])
  refine wpAnyH_take (i := 19) (v := ?_) rfl (by kernel_rfl) (by kernel_rfl) (by kernel_rfl) (fun _ _ _ h => h) (Or.inl ⟨by rfl, ?_⟩) (by assumption) ?_
  rotate_left
  · intro W hSw
    have hq9 := hSw.1.cell
    have hq12 := hSw.2.1.cell
    clear hSw
    go_simp
    (try with_reducible rfl)
  (try simp only [Act.put, List.getElem_toArray, List.getElem_cons_succ, List.getElem_cons_zero, List.setIfInBounds_toArray, List.set_cons_zero, List.set_cons_succ])
  refine wpAnyH_take (i := 20) (v := ?_) rfl (by kernel_rfl) (by kernel_rfl) (by kernel_rfl) (fun _ _ _ h => h) (Or.inl ⟨by rfl, ?_⟩) (by assumption) ?_
  rotate_left
  · intro W hSw
    have hq9 := hSw.1.cell
    have hq12 := hSw.2.1.cell
    clear hSw
    go_simp
    (try with_reducible rfl)
  (try simp only [Act.put, List.getElem_toArray, List.getElem_cons_succ, List.getElem_cons_zero, List.setIfInBounds_toArray, List.set_cons_zero, List.set_cons_succ])
  refine wpAnyH_take (i := 21) (v := ?_) rfl (by kernel_rfl) (by kernel_rfl) (by kernel_rfl) (fun _ _ _ h => h) (Or.inl ⟨by rfl, ?_⟩) (by assumption) ?_
  rotate_left
  · intro W hSw
    have hq9 := hSw.1.cell
    have hq12 := hSw.2.1.cell
    clear hSw
    go_simp
    (try with_reducible rfl)
  (try simp only [Act.put, List.getElem_toArray, List.getElem_cons_succ, List.getElem_cons_zero, List.setIfInBounds_toArray, List.set_cons_zero, List.set_cons_succ])
  refine wpAnyH_ready (rs := [22]) (by kernel_rfl) (by simp) ?_
  refine AllReadyH.cons rfl (fun K hK => ?_) AllReadyH.nil
  rw [if_pos (by rfl)]
  simp only [List.getElem_toArray, List.getElem_cons_succ, List.getElem_cons_zero]
  go_simp
  go_at_call 26
  refine (delay_any _ _ (by omega) (by omega)).mono ?_
  rintro e w' ⟨rfl, rfl⟩
  dsimp only
  refine hK.out _ _ ?_ (fun hHeld2 => ?_)
  · exact hHeld
  clear hK K hHeld
  have hHeld := hHeld2
  clear hHeld2
  (try simp only [Act.put, List.getElem_toArray, List.getElem_cons_succ, List.getElem_cons_zero, List.setIfInBounds_toArray, List.set_cons_zero, List.set_cons_succ])
  refine wpAnyH_take (i := 23) (v := ?_) rfl (by kernel_rfl) (by kernel_rfl) (by kernel_rfl) (fun _ _ _ h => h) (Or.inl ⟨by rfl, ?_⟩) (by assumption) ?_
  rotate_left
  · intro W hSw
    have hq9 := hSw.1.cell
    have hq12 := hSw.2.1.cell
    clear hSw
    go_simp
    (try with_reducible rfl)
  (try simp only [Act.put, List.getElem_toArray, List.getElem_cons_succ, List.getElem_cons_zero, List.setIfInBounds_toArray, List.set_cons_zero, List.set_cons_succ])
  refine wpAnyH_take (i := 24) (v := ?_) rfl (by kernel_rfl) (by kernel_rfl) (by kernel_rfl) (fun _ _ _ h => h) (Or.inl ⟨by rfl, ?_⟩) (by assumption) ?_
  rotate_left
  · intro W hSw
    have hq9 := hSw.1.cell
    have hq12 := hSw.2.1.cell
    clear hSw
    go_simp
    (try with_reducible rfl)
  (try simp only [Act.put, List.getElem_toArray, List.getElem_cons_succ, List.getElem_cons_zero, List.setIfInBounds_toArray, List.set_cons_zero, List.set_cons_succ])
  refine wpAnyH_take (i := 25) (v := ?_) rfl (by kernel_rfl) (by kernel_rfl) (by kernel_rfl) (fun _ _ _ h => h) (Or.inl ⟨by rfl, ?_⟩) (by assumption) ?_
  rotate_left
  · intro W hSw
    have hq9 := hSw.1.cell
    have hq12 := hSw.2.1.cell
    clear hSw
    go_simp
    (try with_reducible rfl)
  (try simp only [Act.put, List.getElem_toArray, List.getElem_cons_succ, List.getElem_cons_zero, List.setIfInBounds_toArray, List.set_cons_zero, List.set_cons_succ])
  refine wpAnyH_take (i := 26) (v := ?_) rfl (by kernel_rfl) (by kernel_rfl) (by kernel_rfl) (fun _ _ _ h => h) (Or.inl ⟨by rfl, ?_⟩) (by assumption) ?_
  rotate_left
  · intro W hSw
    have hq9 := hSw.1.cell
    have hq12 := hSw.2.1.cell
    clear hSw
    go_simp
    (try with_reducible rfl)
  (try simp only [Act.put, List.getElem_toArray, List.getElem_cons_succ, List.getElem_cons_zero, List.setIfInBounds_toArray, List.set_cons_zero, List.set_cons_succ])
  refine wpAnyH_done (by kernel_rfl) ?_ _
  go_wp2
  go_ret
  exact ⟨rfl, hHeld.2.2.1⟩


set_option maxRecDepth 100000 in
set_option maxHeartbeats 8000000 in
theorem la_d3 (m : Msg) (A : Option Addr) (c : Nat) (id : Int) (g : ByteArray) (now : Int) (w : World) (hl : Strs w A m.keys) (wi : (Lit.int .i64 id).wf = true) (wn : (Lit.int .i64 now).wf = true) (hG : greatM m = false) (hS : decide ((100 : Int) < (g.size : Int)) = false) (f0 : groupL (L g) = true) (f1 : rightM m = true) (k1 : (m.kind == 1) = false) (k3 : (m.kind == 3) = true) (n1 : (m.kind != 1) = true) (n3 : (m.kind != 3) = false) (t0 : okT id = true) (t1 : okT now = true) (f3 : decide (m.retry < 4) = false) :
    Calls Try.prog 5 #[.agg #[.int .i64 m.kind, .int .i64 m.queue, .int .i64 m.due, .int .i64 m.retry, .int .i64 m.ref, .int .i64 m.born, .string m.topic, .string m.tag, .string m.body, .slice A m.keys.length c], .string g, .agg #[.int .i64 id, .int .i64 now]] w fun e w' => e = .returned (.bool true) ∧ Below w.heap.size w w' := by
  obtain ⟨hn, hs, -, hzb, hzt, hzg⟩ := great_low hG
  have HS := Lib.hid hs
  have hgz : g.size ≤ 100 := by simp at hS; omega
  have hz1 : m.topic.size ≤ 9223372036854775807 := by omega
  have hz2 : m.tag.size ≤ 9223372036854775807 := by omega
  have hz3 : m.body.size ≤ 9223372036854775806 := by omega
  clear hs
  have hM0 : mayM m = true := by simp only [mayM, f1, k1, k3]; rfl
  have HM := Lib.hid hM0
  have HT := Lib.hid (show allI okT [id, now] = true by simp [allI, t0, t1])
  have hcar := right_carries f1 (by first | exact Or.inl k1 | exact Or.inr k3)
  have hri : 0 ≤ id ∧ id ≤ 1099511626776 := by simp [okT] at t0; omega
  have hrn : 0 ≤ now ∧ now ≤ 1099511626776 := by simp [okT] at t1; omega
  obtain ⟨hrlo, hrhi⟩ := carries_retry m hcar
  clear hM0
  have hsame := (show sameM (deadM m g now) (wantD m g now) = true by rw [wantD_eq f0]; exact sameM_self _)
  have hright := right_dead (m := m) (now := now) f0 hcar hrn.1 (by omega)
  have hzo : (ownB (B deadL) g).size ≤ 1000 := by rw [← ownB_yes f0, ByteArray.size_append, B_size]; simp [deadL]; omega
  have HQ := Lib.hid (And.intro hsame hright)
  clear hsame hright hcar
  have HL := Lib.hid hl
  clear hl
  go_enter Try.func5, Try.ntmps5
  go_wp2_with (first
    | (go_at_call 9; refine (awake_any _).mono ?_; rintro e w' ⟨rfl, rfl⟩)
    | (go_at_call 20; refine (great_any m A c (w.heap.size + 2) _ (HL.out.below (by repeat (first | exact Below.refl _ _ | apply balloc | apply bdrew | apply bdrewN))) (blk_at (Blk.new _ _ _) (by simp))).mono ?_; rintro e w1 ⟨rfl, hb⟩
       have HB1 : Below w.heap.size w w1 := bstep (by repeat (first | exact Below.refl _ _ | apply balloc | apply bdrew | apply bdrewN)) hb
       have b3 : Blk w1 w.heap.size 39 #[.int .i64 m.kind, .int .i64 m.queue, .int .i64 m.due, .int .i64 m.retry, .int .i64 m.ref, .int .i64 m.born, .string m.topic, .string m.tag, .string m.body, .slice A m.keys.length c] := Blk.later (Blk.later (Blk.new w 39 #[.int .i64 m.kind, .int .i64 m.queue, .int .i64 m.due, .int .i64 m.retry, .int .i64 m.ref, .int .i64 m.born, .string m.topic, .string m.tag, .string m.body, .slice A m.keys.length c]) (by repeat (first | exact Below.refl _ _ | apply balloc | apply bdrew | apply bdrewN))) hb
       have hc3 := b3.cell))
  go_quiet (fail)
  go_wp2_with (first
    | (go_at_call 9; refine (awake_any _).mono ?_; rintro e w' ⟨rfl, rfl⟩)
    | (go_at_call 20; refine (great_any m A c (w.heap.size + 2) _ (HL.out.below (by repeat (first | exact Below.refl _ _ | apply balloc | apply bdrew | apply bdrewN))) (blk_at (Blk.new _ _ _) (by simp))).mono ?_; rintro e w1 ⟨rfl, hb⟩
       have HB1 : Below w.heap.size w w1 := bstep (by repeat (first | exact Below.refl _ _ | apply balloc | apply bdrew | apply bdrewN)) hb
       have b3 : Blk w1 w.heap.size 39 #[.int .i64 m.kind, .int .i64 m.queue, .int .i64 m.due, .int .i64 m.retry, .int .i64 m.ref, .int .i64 m.born, .string m.topic, .string m.tag, .string m.body, .slice A m.keys.length c] := Blk.later (Blk.later (Blk.new w 39 #[.int .i64 m.kind, .int .i64 m.queue, .int .i64 m.due, .int .i64 m.retry, .int .i64 m.ref, .int .i64 m.born, .string m.topic, .string m.tag, .string m.body, .slice A m.keys.length c]) (by repeat (first | exact Below.refl _ _ | apply balloc | apply bdrew | apply bdrewN))) hb
       have hc3 := b3.cell)
    | (go_at_call 21; refine (ag_d m A c id g now _ (HL.out.below HB1) hn HS.out (by omega) f0 HM.out HT.out f3).mono ?_; rintro e w2 ⟨A2, c2, rfl, hrow, hb⟩
       have HB2 : Below w.heap.size w w2 := bstep HB1 hb
       have b32 := b3.later hb
       have HG0 : w.heap.size < w2.heap.size := b32.lt
       clear hc3
       have hc3 := b32.cell
       have hA : Below w2.heap.size w2 (w2.alloc (.cells #[.int .i64 1, .int .i64 0, .int .i64 0, .int .i64 m.retry, .int .i64 0, .int .i64 now, .string (ownB (B deadL) g), .string m.tag, .string m.body, .slice A2 m.keys.length c2] 39)) := balloc (Below.refl _ _)
       have HBa : Below w.heap.size w (w2.alloc (.cells #[.int .i64 1, .int .i64 0, .int .i64 0, .int .i64 m.retry, .int .i64 0, .int .i64 now, .string (ownB (B deadL) g), .string m.tag, .string m.body, .slice A2 m.keys.length c2] 39)) := bstep HB2 hA
       have b3a := b32.later hA
       have bXa : Blk (w2.alloc (.cells #[.int .i64 1, .int .i64 0, .int .i64 0, .int .i64 m.retry, .int .i64 0, .int .i64 now, .string (ownB (B deadL) g), .string m.tag, .string m.body, .slice A2 m.keys.length c2] 39)) w2.heap.size 39 #[.int .i64 1, .int .i64 0, .int .i64 0, .int .i64 m.retry, .int .i64 0, .int .i64 now, .string (ownB (B deadL) g), .string m.tag, .string m.body, .slice A2 m.keys.length c2] := Blk.new _ _ _
       have hrowa := Lib.hid (ownsRow_later hrow hA)
       clear hrow)
    | (go_at_call 23; refine (rGroup_any _ _ (by omega)).mono ?_; rintro e w' ⟨rfl, rfl⟩)
    | (go_at_call 25; refine (rright_any m A c _ (HL.out.below HBa) HS.out hz1 hz2 hz3).mono ?_; rintro e w3 ⟨rfl, hb⟩
       have HB3 : Below w.heap.size w w3 := bstep HBa hb
       have b33 := b3a.later hb
       have bX3 := bXa.later hb
       have hrow3 := Lib.hid (ownsRow_later hrowa.out hb)
       have HG1 : w.heap.size < w3.heap.size := b33.lt
       have HG2 : w2.heap.size < w3.heap.size := bX3.lt
       clear hc3
       have hc3 := b33.cell
       have hcX := bX3.cell)
    | (go_at_call 22; refine (small_any _ _).mono ?_; rintro e w' ⟨rfl, rfl⟩))
  obtain ⟨hsame, hright⟩ := HQ.out
  have hA4 : Below w3.heap.size w3 (w3.alloc (.cells #[.int .i64 1, .int .i64 0, .int .i64 0, .int .i64 m.retry, .int .i64 0, .int .i64 now, .string (⟨#[37, 100, 101, 97, 100, 37]⟩ ++ g), .string m.tag, .string m.body, .slice A m.keys.length c] 39)) := balloc (Below.refl _ _)
  have bX4 := bX3.later hA4
  have bW4 : Blk (w3.alloc (.cells #[.int .i64 1, .int .i64 0, .int .i64 0, .int .i64 m.retry, .int .i64 0, .int .i64 now, .string (⟨#[37, 100, 101, 97, 100, 37]⟩ ++ g), .string m.tag, .string m.body, .slice A m.keys.length c] 39)) w3.heap.size 39 #[.int .i64 1, .int .i64 0, .int .i64 0, .int .i64 m.retry, .int .i64 0, .int .i64 now, .string (⟨#[37, 100, 101, 97, 100, 37]⟩ ++ g), .string m.tag, .string m.body, .slice A m.keys.length c] := Blk.new _ _ _
  have HB4 : Below w.heap.size w (w3.alloc (.cells #[.int .i64 1, .int .i64 0, .int .i64 0, .int .i64 m.retry, .int .i64 0, .int .i64 now, .string (⟨#[37, 100, 101, 97, 100, 37]⟩ ++ g), .string m.tag, .string m.body, .slice A m.keys.length c] 39)) := bstep HB3 hA4
  have HC4 := hA4
  refine wp_region_held_drew (S := fun W => Blk W w2.heap.size 39 #[.int .i64 1, .int .i64 0, .int .i64 0, .int .i64 m.retry, .int .i64 0, .int .i64 now, .string (ownB (B deadL) g), .string m.tag, .string m.body, .slice A2 m.keys.length c2] ∧ Blk W w3.heap.size 39 #[.int .i64 1, .int .i64 0, .int .i64 0, .int .i64 m.retry, .int .i64 0, .int .i64 now, .string (⟨#[37, 100, 101, 97, 100, 37]⟩ ++ g), .string m.tag, .string m.body, .slice A m.keys.length c] ∧ Below w.heap.size w W ∧ Below w3.heap.size w3 W) (by kernel_rfl) ?_ (fun hHeld => ?_)
  · exact ⟨bX4.drewN 1, bW4.drewN 1, bdrew HB4, bdrew HC4⟩
  refine wpAnyH_take (i := 0) (v := ?_) rfl (by kernel_rfl) (by kernel_rfl) (by kernel_rfl) (fun _ _ _ h => h) (Or.inl ⟨by rfl, ?_⟩) (by assumption) ?_
  rotate_left
  · intro W hSw
    have hq9 := hSw.1.cell
    have hq12 := hSw.2.1.cell
    clear hSw
    go_simp
    (try with_reducible rfl)
  (try simp only [Act.put, List.getElem_toArray, List.getElem_cons_succ, List.getElem_cons_zero, List.setIfInBounds_toArray, List.set_cons_zero, List.set_cons_succ])
  refine wpAnyH_take (i := 1) (v := ?_) rfl (by kernel_rfl) (by kernel_rfl) (by kernel_rfl) (fun _ _ _ h => h) (Or.inl ⟨by rfl, ?_⟩) (by assumption) ?_
  rotate_left
  · intro W hSw
    have hq9 := hSw.1.cell
    have hq12 := hSw.2.1.cell
    clear hSw
    go_simp
    (try with_reducible rfl)
  (try simp only [Act.put, List.getElem_toArray, List.getElem_cons_succ, List.getElem_cons_zero, List.setIfInBounds_toArray, List.set_cons_zero, List.set_cons_succ])
  refine wpAnyH_take (i := 2) (v := ?_) rfl (by kernel_rfl) (by kernel_rfl) (by kernel_rfl) (fun _ _ _ h => h) (Or.inl ⟨by rfl, ?_⟩) (by assumption) ?_
  rotate_left
  · intro W hSw
    have hq9 := hSw.1.cell
    have hq12 := hSw.2.1.cell
    clear hSw
    go_simp
    (try with_reducible rfl)
  (try simp only [Act.put, List.getElem_toArray, List.getElem_cons_succ, List.getElem_cons_zero, List.setIfInBounds_toArray, List.set_cons_zero, List.set_cons_succ])
  refine wpAnyH_take (i := 3) (v := ?_) rfl (by kernel_rfl) (by kernel_rfl) (by kernel_rfl) (fun _ _ _ h => h) (Or.inl ⟨by rfl, ?_⟩) (by assumption) ?_
  rotate_left
  · intro W hSw
    have hq9 := hSw.1.cell
    have hq12 := hSw.2.1.cell
    clear hSw
    go_simp
    (try with_reducible rfl)
  (try simp only [Act.put, List.getElem_toArray, List.getElem_cons_succ, List.getElem_cons_zero, List.setIfInBounds_toArray, List.set_cons_zero, List.set_cons_succ])
  refine wpAnyH_take (i := 4) (v := ?_) rfl (by kernel_rfl) (by kernel_rfl) (by kernel_rfl) (fun _ _ _ h => h) (Or.inl ⟨by rfl, ?_⟩) (by assumption) ?_
  rotate_left
  · intro W hSw
    have hq9 := hSw.1.cell
    have hq12 := hSw.2.1.cell
    clear hSw
    go_simp
    (try with_reducible rfl)
  (try simp only [Act.put, List.getElem_toArray, List.getElem_cons_succ, List.getElem_cons_zero, List.setIfInBounds_toArray, List.set_cons_zero, List.set_cons_succ])
  refine wpAnyH_ready (rs := [5]) (by kernel_rfl) (by simp) ?_
  refine AllReadyH.cons rfl (fun K hK => ?_) AllReadyH.nil
  rw [if_pos (by rfl)]
  simp only [List.getElem_toArray, List.getElem_cons_succ, List.getElem_cons_zero]
  go_simp
  go_at_call 24
  have hcall := rSame_any (deadM m g now) (wantD m g now) A2 A c2 c _ ((Strs.of_row hrow3.out).below hHeld.2.2.2) (HL.out.below hHeld.2.2.1) (by show m.keys.length ≤ _; omega) (by show m.keys.length ≤ _; omega)
  rw [hsame] at hcall
  refine hcall.mono ?_
  clear hcall
  rintro e w6 ⟨rfl, hb⟩
  dsimp only
  refine hK.out _ _ ?_ (fun hHeld2 => ?_)
  · exact ⟨hHeld.1.later hb, hHeld.2.1.later hb, bstep hHeld.2.2.1 hb, bstep hHeld.2.2.2 hb⟩
  clear hK K hHeld
  have hHeld := hHeld2
  clear hHeld2
  (try simp only [Act.put, List.getElem_toArray, List.getElem_cons_succ, List.getElem_cons_zero, List.setIfInBounds_toArray, List.set_cons_zero, List.set_cons_succ])
  refine wpAnyH_take (i := 6) (v := ?_) rfl (by kernel_rfl) (by kernel_rfl) (by kernel_rfl) (fun _ _ _ h => h) (Or.inl ⟨by rfl, ?_⟩) (by assumption) ?_
  rotate_left
  · intro W hSw
    have hq9 := hSw.1.cell
    have hq12 := hSw.2.1.cell
    clear hSw
    go_simp
    (try with_reducible rfl)
  (try simp only [Act.put, List.getElem_toArray, List.getElem_cons_succ, List.getElem_cons_zero, List.setIfInBounds_toArray, List.set_cons_zero, List.set_cons_succ])
  refine wpAnyH_take (i := 7) (v := ?_) rfl (by kernel_rfl) (by kernel_rfl) (by kernel_rfl) (fun _ _ _ h => h) (Or.inl ⟨by rfl, ?_⟩) (by assumption) ?_
  rotate_left
  · intro W hSw
    have hq9 := hSw.1.cell
    have hq12 := hSw.2.1.cell
    clear hSw
    go_simp
    (try with_reducible rfl)
  (try simp only [Act.put, List.getElem_toArray, List.getElem_cons_succ, List.getElem_cons_zero, List.setIfInBounds_toArray, List.set_cons_zero, List.set_cons_succ])
  refine wpAnyH_take (i := 8) (v := ?_) rfl (by kernel_rfl) (by kernel_rfl) (by kernel_rfl) (fun _ _ _ h => h) (Or.inl ⟨by rfl, ?_⟩) (by assumption) ?_
  rotate_left
  · intro W hSw
    have hq9 := hSw.1.cell
    have hq12 := hSw.2.1.cell
    clear hSw
    go_simp
    (try with_reducible rfl)
  (try simp only [Act.put, List.getElem_toArray, List.getElem_cons_succ, List.getElem_cons_zero, List.setIfInBounds_toArray, List.set_cons_zero, List.set_cons_succ])
  refine wpAnyH_ready (rs := [9]) (by kernel_rfl) (by simp) ?_
  refine AllReadyH.cons rfl (fun K hK => ?_) AllReadyH.nil
  rw [if_pos (by rfl)]
  simp only [List.getElem_toArray, List.getElem_cons_succ, List.getElem_cons_zero]
  go_simp
  go_at_call 25
  have hcall := rright_any (deadM m g now) A2 c2 _ ((Strs.of_row hrow3.out).below hHeld.2.2.2) HS.out (by show (ownB _ _).size ≤ _; omega) hz2 hz3
  rw [hright] at hcall
  refine hcall.mono ?_
  clear hcall
  rintro e w7 ⟨rfl, hb⟩
  dsimp only
  refine hK.out _ _ ?_ (fun hHeld2 => ?_)
  · exact ⟨hHeld.1.later hb, hHeld.2.1.later hb, bstep hHeld.2.2.1 hb, bstep hHeld.2.2.2 hb⟩
  clear hK K hHeld
  have hHeld := hHeld2
  clear hHeld2
  (try simp only [Act.put, List.getElem_toArray, List.getElem_cons_succ, List.getElem_cons_zero, List.setIfInBounds_toArray, List.set_cons_zero, List.set_cons_succ])
  refine wpAnyH_take (i := 10) (v := ?_) rfl (by kernel_rfl) (by kernel_rfl) (by kernel_rfl) (fun _ _ _ h => h) (Or.inl ⟨by rfl, ?_⟩) (by assumption) ?_
  rotate_left
  · intro W hSw
    have hq9 := hSw.1.cell
    have hq12 := hSw.2.1.cell
    clear hSw
    go_simp
    (try with_reducible rfl)
  (try simp only [Act.put, List.getElem_toArray, List.getElem_cons_succ, List.getElem_cons_zero, List.setIfInBounds_toArray, List.set_cons_zero, List.set_cons_succ])
  refine wpAnyH_take (i := 11) (v := ?_) rfl (by kernel_rfl) (by kernel_rfl) (by kernel_rfl) (fun _ _ _ h => h) (Or.inl ⟨by rfl, ?_⟩) (by assumption) ?_
  rotate_left
  · intro W hSw
    have hq9 := hSw.1.cell
    have hq12 := hSw.2.1.cell
    clear hSw
    go_simp
    (try with_reducible rfl)
  (try simp only [Act.put, List.getElem_toArray, List.getElem_cons_succ, List.getElem_cons_zero, List.setIfInBounds_toArray, List.set_cons_zero, List.set_cons_succ])
  refine wpAnyH_take (i := 12) (v := ?_) rfl (by kernel_rfl) (by kernel_rfl) (by kernel_rfl) (fun _ _ _ h => h) (Or.inl ⟨by rfl, ?_⟩) (by assumption) ?_
  rotate_left
  · intro W hSw
    have hq9 := hSw.1.cell
    have hq12 := hSw.2.1.cell
    clear hSw
    go_simp
    (try with_reducible rfl)
  (try simp only [Act.put, List.getElem_toArray, List.getElem_cons_succ, List.getElem_cons_zero, List.setIfInBounds_toArray, List.set_cons_zero, List.set_cons_succ])
  refine wpAnyH_take (i := 13) (v := ?_) rfl (by kernel_rfl) (by kernel_rfl) (by kernel_rfl) (fun _ _ _ h => h) (Or.inl ⟨by rfl, ?_⟩) (by assumption) ?_
  rotate_left
  · intro W hSw
    have hq9 := hSw.1.cell
    have hq12 := hSw.2.1.cell
    clear hSw
    go_simp
    (try with_reducible rfl)
  (try simp only [Act.put, List.getElem_toArray, List.getElem_cons_succ, List.getElem_cons_zero, List.setIfInBounds_toArray, List.set_cons_zero, List.set_cons_succ])
  refine wpAnyH_take (i := 14) (v := ?_) rfl (by kernel_rfl) (by kernel_rfl) (by kernel_rfl) (fun _ _ _ h => h) (Or.inl ⟨by rfl, ?_⟩) (by assumption) ?_
  rotate_left
  · intro W hSw
    have hq9 := hSw.1.cell
    have hq12 := hSw.2.1.cell
    clear hSw
    go_simp
    (try with_reducible rfl)
  (try simp only [Act.put, List.getElem_toArray, List.getElem_cons_succ, List.getElem_cons_zero, List.setIfInBounds_toArray, List.set_cons_zero, List.set_cons_succ])
  refine wpAnyH_take (i := 15) (v := ?_) rfl (by kernel_rfl) (by kernel_rfl) (by kernel_rfl) (fun _ _ _ h => h) (Or.inl ⟨by rfl, ?_⟩) (by assumption) ?_
  rotate_left
  · intro W hSw
    have hq9 := hSw.1.cell
    have hq12 := hSw.2.1.cell
    clear hSw
    go_simp
    (try with_reducible rfl)
  (try simp only [Act.put, List.getElem_toArray, List.getElem_cons_succ, List.getElem_cons_zero, List.setIfInBounds_toArray, List.set_cons_zero, List.set_cons_succ])
  refine wpAnyH_take (i := 16) (v := undef) rfl (by kernel_rfl) (by kernel_rfl) (by kernel_rfl) (fun _ _ _ h => h) (Or.inr ⟨by rfl, rfl⟩) (by assumption) ?_
  (try simp only [Act.put, List.getElem_toArray, List.getElem_cons_succ, List.getElem_cons_zero, List.setIfInBounds_toArray, List.set_cons_zero, List.set_cons_succ])
  refine wpAnyH_take (i := 17) (v := undef) rfl (by kernel_rfl) (by kernel_rfl) (by kernel_rfl) (fun _ _ _ h => h) (Or.inr ⟨by rfl, rfl⟩) (by assumption) ?_
  (try simp only [Act.put, List.getElem_toArray, List.getElem_cons_succ, List.getElem_cons_zero, List.setIfInBounds_toArray, List.set_cons_zero, List.set_cons_succ])
  refine wpAnyH_take (i := 18) (v := undef) rfl (by kernel_rfl) (by kernel_rfl) (by kernel_rfl) (fun _ _ _ h => h) (Or.inr ⟨by rfl, rfl⟩) (by assumption) ?_
  (try simp only [Act.put, List.getElem_toArray, List.getElem_cons_succ, List.getElem_cons_zero, List.setIfInBounds_toArray, List.set_cons_zero, List.set_cons_succ])
  refine wpAnyH_take (i := 19) (v := undef) rfl (by kernel_rfl) (by kernel_rfl) (by kernel_rfl) (fun _ _ _ h => h) (Or.inr ⟨by rfl, rfl⟩) (by assumption) ?_
  (try simp only [Act.put, List.getElem_toArray, List.getElem_cons_succ, List.getElem_cons_zero, List.setIfInBounds_toArray, List.set_cons_zero, List.set_cons_succ])
  refine wpAnyH_take (i := 20) (v := undef) rfl (by kernel_rfl) (by kernel_rfl) (by kernel_rfl) (fun _ _ _ h => h) (Or.inr ⟨by rfl, rfl⟩) (by assumption) ?_
  (try simp only [Act.put, List.getElem_toArray, List.getElem_cons_succ, List.getElem_cons_zero, List.setIfInBounds_toArray, List.set_cons_zero, List.set_cons_succ])
  refine wpAnyH_take (i := 21) (v := undef) rfl (by kernel_rfl) (by kernel_rfl) (by kernel_rfl) (fun _ _ _ h => h) (Or.inr ⟨by rfl, rfl⟩) (by assumption) ?_
  (try simp only [Act.put, List.getElem_toArray, List.getElem_cons_succ, List.getElem_cons_zero, List.setIfInBounds_toArray, List.set_cons_zero, List.set_cons_succ])
  refine wpAnyH_take (i := 22) (v := undef) rfl (by kernel_rfl) (by kernel_rfl) (by kernel_rfl) (fun _ _ _ h => h) (Or.inr ⟨by rfl, rfl⟩) (by assumption) ?_
  (try simp only [Act.put, List.getElem_toArray, List.getElem_cons_succ, List.getElem_cons_zero, List.setIfInBounds_toArray, List.set_cons_zero, List.set_cons_succ])
  refine wpAnyH_take (i := 23) (v := undef) rfl (by kernel_rfl) (by kernel_rfl) (by kernel_rfl) (fun _ _ _ h => h) (Or.inr ⟨by rfl, rfl⟩) (by assumption) ?_
  (try simp only [Act.put, List.getElem_toArray, List.getElem_cons_succ, List.getElem_cons_zero, List.setIfInBounds_toArray, List.set_cons_zero, List.set_cons_succ])
  refine wpAnyH_take (i := 24) (v := ?_) rfl (by kernel_rfl) (by kernel_rfl) (by kernel_rfl) (fun _ _ _ h => h) (Or.inl ⟨by rfl, ?_⟩) (by assumption) ?_
  rotate_left
  · intro W hSw
    have hq9 := hSw.1.cell
    have hq12 := hSw.2.1.cell
    clear hSw
    go_simp
    (try with_reducible rfl)
  (try simp only [Act.put, List.getElem_toArray, List.getElem_cons_succ, List.getElem_cons_zero, List.setIfInBounds_toArray, List.set_cons_zero, List.set_cons_succ])
  refine wpAnyH_take (i := 25) (v := ?_) rfl (by kernel_rfl) (by kernel_rfl) (by kernel_rfl) (fun _ _ _ h => h) (Or.inl ⟨by rfl, ?_⟩) (by assumption) ?_
  rotate_left
  · intro W hSw
    have hq9 := hSw.1.cell
    have hq12 := hSw.2.1.cell
    clear hSw
    go_simp
    (try with_reducible rfl)
  (try simp only [Act.put, List.getElem_toArray, List.getElem_cons_succ, List.getElem_cons_zero, List.setIfInBounds_toArray, List.set_cons_zero, List.set_cons_succ])
  refine wpAnyH_take (i := 26) (v := ?_) rfl (by kernel_rfl) (by kernel_rfl) (by kernel_rfl) (fun _ _ _ h => h) (Or.inl ⟨by rfl, ?_⟩) (by assumption) ?_
  rotate_left
  · intro W hSw
    have hq9 := hSw.1.cell
    have hq12 := hSw.2.1.cell
    clear hSw
    go_simp
    (try with_reducible rfl)
  (try simp only [Act.put, List.getElem_toArray, List.getElem_cons_succ, List.getElem_cons_zero, List.setIfInBounds_toArray, List.set_cons_zero, List.set_cons_succ])
  refine wpAnyH_done (by kernel_rfl) ?_ _
  go_wp2
  go_ret
  exact ⟨rfl, hHeld.2.2.1⟩


set_option maxRecDepth 100000 in
set_option maxHeartbeats 8000000 in
theorem la_y3 (m : Msg) (A : Option Addr) (c : Nat) (id : Int) (g : ByteArray) (now : Int) (w : World) (hl : Strs w A m.keys) (wi : (Lit.int .i64 id).wf = true) (wn : (Lit.int .i64 now).wf = true) (hG : greatM m = false) (hS : decide ((100 : Int) < (g.size : Int)) = false) (f0 : groupL (L g) = true) (f1 : rightM m = true) (k1 : (m.kind == 1) = false) (k3 : (m.kind == 3) = true) (n1 : (m.kind != 1) = true) (n3 : (m.kind != 3) = false) (t0 : okT id = true) (t1 : okT now = true) (f3 : decide (m.retry < 4) = true) :
    Calls Try.prog 5 #[.agg #[.int .i64 m.kind, .int .i64 m.queue, .int .i64 m.due, .int .i64 m.retry, .int .i64 m.ref, .int .i64 m.born, .string m.topic, .string m.tag, .string m.body, .slice A m.keys.length c], .string g, .agg #[.int .i64 id, .int .i64 now]] w fun e w' => e = .returned (.bool true) ∧ Below w.heap.size w w' := by
  obtain ⟨hn, hs, -, hzb, hzt, hzg⟩ := great_low hG
  have HS := Lib.hid hs
  have hgz : g.size ≤ 100 := by simp at hS; omega
  have hz1 : m.topic.size ≤ 9223372036854775807 := by omega
  have hz2 : m.tag.size ≤ 9223372036854775807 := by omega
  have hz3 : m.body.size ≤ 9223372036854775806 := by omega
  clear hs
  have hM0 : mayM m = true := by simp only [mayM, f1, k1, k3]; rfl
  have HM := Lib.hid hM0
  have HT := Lib.hid (show allI okT [id, now] = true by simp [allI, t0, t1])
  have hcar := right_carries f1 (by first | exact Or.inl k1 | exact Or.inr k3)
  have hri : 0 ≤ id ∧ id ≤ 1099511626776 := by simp [okT] at t0; omega
  have hrn : 0 ≤ now ∧ now ≤ 1099511626776 := by simp [okT] at t1; omega
  obtain ⟨hrlo, hrhi⟩ := carries_retry m hcar
  clear hM0
  have h4 : m.retry < 4 := by simpa using f3
  have hsame := (show sameM (retryM m id g now) (wantY m id g now) = true by rw [wantY_eq f0]; exact sameM_self _)
  have hright := right_retryM (m := m) (id := id) (now := now) f0 hcar hrn.1 hrn.2 hri.1 hri.2 h4
  have hzo : (ownB (B retryL) g).size ≤ 1000 := by rw [← ownB_yes f0, ByteArray.size_append, B_size]; simp [retryL]; omega
  obtain ⟨hd0, hd1⟩ : 0 ≤ delayN (m.retry + 1) ∧ delayN (m.retry + 1) ≤ 16 := by unfold delayN; omega
  have hdl := fun h => delays_get hrlo h4 h
  have hw1 : IntKind.i64.wrap (now + delayN (m.retry + 1) - now) = delayN (m.retry + 1) := by
    have : now + delayN (m.retry + 1) - now = delayN (m.retry + 1) := by omega
    rw [this]; exact IntWalk.i64_in _ (by omega)
  have HQ := Lib.hid (And.intro hsame (And.intro hright hw1))
  clear hsame hright hcar hw1
  have HL := Lib.hid hl
  clear hl
  go_enter Try.func5, Try.ntmps5
  go_wp2_with (first
    | (go_at_call 9; refine (awake_any _).mono ?_; rintro e w' ⟨rfl, rfl⟩)
    | (go_at_call 20; refine (great_any m A c (w.heap.size + 2) _ (HL.out.below (by repeat (first | exact Below.refl _ _ | apply balloc | apply bdrew | apply bdrewN))) (blk_at (Blk.new _ _ _) (by simp))).mono ?_; rintro e w1 ⟨rfl, hb⟩
       have HB1 : Below w.heap.size w w1 := bstep (by repeat (first | exact Below.refl _ _ | apply balloc | apply bdrew | apply bdrewN)) hb
       have b3 : Blk w1 w.heap.size 39 #[.int .i64 m.kind, .int .i64 m.queue, .int .i64 m.due, .int .i64 m.retry, .int .i64 m.ref, .int .i64 m.born, .string m.topic, .string m.tag, .string m.body, .slice A m.keys.length c] := Blk.later (Blk.later (Blk.new w 39 #[.int .i64 m.kind, .int .i64 m.queue, .int .i64 m.due, .int .i64 m.retry, .int .i64 m.ref, .int .i64 m.born, .string m.topic, .string m.tag, .string m.body, .slice A m.keys.length c]) (by repeat (first | exact Below.refl _ _ | apply balloc | apply bdrew | apply bdrewN))) hb
       have hc3 := b3.cell))
  go_quiet (fail)
  go_wp2_with (first
    | (go_at_call 9; refine (awake_any _).mono ?_; rintro e w' ⟨rfl, rfl⟩)
    | (go_at_call 20; refine (great_any m A c (w.heap.size + 2) _ (HL.out.below (by repeat (first | exact Below.refl _ _ | apply balloc | apply bdrew | apply bdrewN))) (blk_at (Blk.new _ _ _) (by simp))).mono ?_; rintro e w1 ⟨rfl, hb⟩
       have HB1 : Below w.heap.size w w1 := bstep (by repeat (first | exact Below.refl _ _ | apply balloc | apply bdrew | apply bdrewN)) hb
       have b3 : Blk w1 w.heap.size 39 #[.int .i64 m.kind, .int .i64 m.queue, .int .i64 m.due, .int .i64 m.retry, .int .i64 m.ref, .int .i64 m.born, .string m.topic, .string m.tag, .string m.body, .slice A m.keys.length c] := Blk.later (Blk.later (Blk.new w 39 #[.int .i64 m.kind, .int .i64 m.queue, .int .i64 m.due, .int .i64 m.retry, .int .i64 m.ref, .int .i64 m.born, .string m.topic, .string m.tag, .string m.body, .slice A m.keys.length c]) (by repeat (first | exact Below.refl _ _ | apply balloc | apply bdrew | apply bdrewN))) hb
       have hc3 := b3.cell)
    | (go_at_call 21; refine (ag_y m A c id g now _ (HL.out.below HB1) hn HS.out (by omega) f0 HM.out HT.out f3).mono ?_; rintro e w2 ⟨A2, c2, rfl, hrow, hb⟩
       have HB2 : Below w.heap.size w w2 := bstep HB1 hb
       have b32 := b3.later hb
       have HG0 : w.heap.size < w2.heap.size := b32.lt
       clear hc3
       have hc3 := b32.cell
       have hA : Below w2.heap.size w2 (w2.alloc (.cells #[.int .i64 2, .int .i64 0, .int .i64 (now + delayN (m.retry + 1)), .int .i64 (m.retry + 1), .int .i64 id, .int .i64 now, .string (ownB (B retryL) g), .string m.tag, .string m.body, .slice A2 m.keys.length c2] 39)) := balloc (Below.refl _ _)
       have HBa : Below w.heap.size w (w2.alloc (.cells #[.int .i64 2, .int .i64 0, .int .i64 (now + delayN (m.retry + 1)), .int .i64 (m.retry + 1), .int .i64 id, .int .i64 now, .string (ownB (B retryL) g), .string m.tag, .string m.body, .slice A2 m.keys.length c2] 39)) := bstep HB2 hA
       have b3a := b32.later hA
       have bXa : Blk (w2.alloc (.cells #[.int .i64 2, .int .i64 0, .int .i64 (now + delayN (m.retry + 1)), .int .i64 (m.retry + 1), .int .i64 id, .int .i64 now, .string (ownB (B retryL) g), .string m.tag, .string m.body, .slice A2 m.keys.length c2] 39)) w2.heap.size 39 #[.int .i64 2, .int .i64 0, .int .i64 (now + delayN (m.retry + 1)), .int .i64 (m.retry + 1), .int .i64 id, .int .i64 now, .string (ownB (B retryL) g), .string m.tag, .string m.body, .slice A2 m.keys.length c2] := Blk.new _ _ _
       have hrowa := Lib.hid (ownsRow_later hrow hA)
       clear hrow)
    | (go_at_call 23; refine (rGroup_any _ _ (by omega)).mono ?_; rintro e w' ⟨rfl, rfl⟩)
    | (go_at_call 25; refine (rright_any m A c _ (HL.out.below HBa) HS.out hz1 hz2 hz3).mono ?_; rintro e w3 ⟨rfl, hb⟩
       have HB3 : Below w.heap.size w w3 := bstep HBa hb
       have b33 := b3a.later hb
       have bX3 := bXa.later hb
       have hrow3 := Lib.hid (ownsRow_later hrowa.out hb)
       have HG1 : w.heap.size < w3.heap.size := b33.lt
       have HG2 : w2.heap.size < w3.heap.size := bX3.lt
       clear hc3
       have hc3 := b33.cell
       have hcX := bX3.cell)
    | (go_at_call 22; refine (small_any _ _).mono ?_; rintro e w' ⟨rfl, rfl⟩))
  obtain ⟨hsame, hright, hw1⟩ := HQ.out
  have hA4 : Below w3.heap.size w3 ((w3.alloc (.cells #[.int .i64 2, .int .i64 0, .int .i64 (now + delayN (m.retry + 1)), .int .i64 (m.retry + 1), .int .i64 id, .int .i64 now, .string (⟨#[37, 114, 101, 116, 114, 121, 37]⟩ ++ g), .string m.tag, .string m.body, .slice A m.keys.length c] 39)).alloc (.cells #[.int .i64 2, .int .i64 4, .int .i64 8, .int .i64 16] 3)) := balloc (balloc (Below.refl _ _))
  have bX4 := bX3.later hA4
  have bW4 : Blk ((w3.alloc (.cells #[.int .i64 2, .int .i64 0, .int .i64 (now + delayN (m.retry + 1)), .int .i64 (m.retry + 1), .int .i64 id, .int .i64 now, .string (⟨#[37, 114, 101, 116, 114, 121, 37]⟩ ++ g), .string m.tag, .string m.body, .slice A m.keys.length c] 39)).alloc (.cells #[.int .i64 2, .int .i64 4, .int .i64 8, .int .i64 16] 3)) w3.heap.size 39 #[.int .i64 2, .int .i64 0, .int .i64 (now + delayN (m.retry + 1)), .int .i64 (m.retry + 1), .int .i64 id, .int .i64 now, .string (⟨#[37, 114, 101, 116, 114, 121, 37]⟩ ++ g), .string m.tag, .string m.body, .slice A m.keys.length c] := heap_alloc2_old w3 _ _
  have HB4 : Below w.heap.size w ((w3.alloc (.cells #[.int .i64 2, .int .i64 0, .int .i64 (now + delayN (m.retry + 1)), .int .i64 (m.retry + 1), .int .i64 id, .int .i64 now, .string (⟨#[37, 114, 101, 116, 114, 121, 37]⟩ ++ g), .string m.tag, .string m.body, .slice A m.keys.length c] 39)).alloc (.cells #[.int .i64 2, .int .i64 4, .int .i64 8, .int .i64 16] 3)) := bstep HB3 hA4
  have HC4 := hA4
  refine wp_region_held_drew (S := fun W => Blk W w2.heap.size 39 #[.int .i64 2, .int .i64 0, .int .i64 (now + delayN (m.retry + 1)), .int .i64 (m.retry + 1), .int .i64 id, .int .i64 now, .string (ownB (B retryL) g), .string m.tag, .string m.body, .slice A2 m.keys.length c2] ∧ Blk W w3.heap.size 39 #[.int .i64 2, .int .i64 0, .int .i64 (now + delayN (m.retry + 1)), .int .i64 (m.retry + 1), .int .i64 id, .int .i64 now, .string (⟨#[37, 114, 101, 116, 114, 121, 37]⟩ ++ g), .string m.tag, .string m.body, .slice A m.keys.length c] ∧ Below w.heap.size w W ∧ Below w3.heap.size w3 W) (by kernel_rfl) ?_ (fun hHeld => ?_)
  · exact ⟨bX4.drewN 1, bW4.drewN 1, bdrew HB4, bdrew HC4⟩
  refine wpAnyH_take (i := 0) (v := ?_) rfl (by kernel_rfl) (by kernel_rfl) (by kernel_rfl) (fun _ _ _ h => h) (Or.inl ⟨by rfl, ?_⟩) (by assumption) ?_
  rotate_left
  · intro W hSw
    have hq9 := hSw.1.cell
    have hq12 := hSw.2.1.cell
    clear hSw
    go_simp
    (try with_reducible rfl)
  (try simp only [Act.put, List.getElem_toArray, List.getElem_cons_succ, List.getElem_cons_zero, List.setIfInBounds_toArray, List.set_cons_zero, List.set_cons_succ])
  refine wpAnyH_take (i := 1) (v := ?_) rfl (by kernel_rfl) (by kernel_rfl) (by kernel_rfl) (fun _ _ _ h => h) (Or.inl ⟨by rfl, ?_⟩) (by assumption) ?_
  rotate_left
  · intro W hSw
    have hq9 := hSw.1.cell
    have hq12 := hSw.2.1.cell
    clear hSw
    go_simp
    (try with_reducible rfl)
  (try simp only [Act.put, List.getElem_toArray, List.getElem_cons_succ, List.getElem_cons_zero, List.setIfInBounds_toArray, List.set_cons_zero, List.set_cons_succ])
  refine wpAnyH_take (i := 2) (v := ?_) rfl (by kernel_rfl) (by kernel_rfl) (by kernel_rfl) (fun _ _ _ h => h) (Or.inl ⟨by rfl, ?_⟩) (by assumption) ?_
  rotate_left
  · intro W hSw
    have hq9 := hSw.1.cell
    have hq12 := hSw.2.1.cell
    clear hSw
    go_simp
    (try with_reducible rfl)
  (try simp only [Act.put, List.getElem_toArray, List.getElem_cons_succ, List.getElem_cons_zero, List.setIfInBounds_toArray, List.set_cons_zero, List.set_cons_succ])
  refine wpAnyH_take (i := 3) (v := ?_) rfl (by kernel_rfl) (by kernel_rfl) (by kernel_rfl) (fun _ _ _ h => h) (Or.inl ⟨by rfl, ?_⟩) (by assumption) ?_
  rotate_left
  · intro W hSw
    have hq9 := hSw.1.cell
    have hq12 := hSw.2.1.cell
    clear hSw
    go_simp
    (try with_reducible rfl)
  (try simp only [Act.put, List.getElem_toArray, List.getElem_cons_succ, List.getElem_cons_zero, List.setIfInBounds_toArray, List.set_cons_zero, List.set_cons_succ])
  refine wpAnyH_take (i := 4) (v := ?_) rfl (by kernel_rfl) (by kernel_rfl) (by kernel_rfl) (fun _ _ _ h => h) (Or.inl ⟨by rfl, ?_⟩) (by assumption) ?_
  rotate_left
  · intro W hSw
    have hq9 := hSw.1.cell
    have hq12 := hSw.2.1.cell
    clear hSw
    go_simp
    (try with_reducible rfl)
  (try simp only [Act.put, List.getElem_toArray, List.getElem_cons_succ, List.getElem_cons_zero, List.setIfInBounds_toArray, List.set_cons_zero, List.set_cons_succ])
  refine wpAnyH_ready (rs := [5]) (by kernel_rfl) (by simp) ?_
  refine AllReadyH.cons rfl (fun K hK => ?_) AllReadyH.nil
  rw [if_pos (by rfl)]
  simp only [List.getElem_toArray, List.getElem_cons_succ, List.getElem_cons_zero]
  go_simp
  go_at_call 24
  have hcall := rSame_any (retryM m id g now) (wantY m id g now) A2 A c2 c _ ((Strs.of_row hrow3.out).below hHeld.2.2.2) (HL.out.below hHeld.2.2.1) (by show m.keys.length ≤ _; omega) (by show m.keys.length ≤ _; omega)
  rw [hsame] at hcall
  refine hcall.mono ?_
  clear hcall
  rintro e w6 ⟨rfl, hb⟩
  dsimp only
  refine hK.out _ _ ?_ (fun hHeld2 => ?_)
  · exact ⟨hHeld.1.later hb, hHeld.2.1.later hb, bstep hHeld.2.2.1 hb, bstep hHeld.2.2.2 hb⟩
  clear hK K hHeld
  have hHeld := hHeld2
  clear hHeld2
  (try simp only [Act.put, List.getElem_toArray, List.getElem_cons_succ, List.getElem_cons_zero, List.setIfInBounds_toArray, List.set_cons_zero, List.set_cons_succ])
  refine wpAnyH_take (i := 6) (v := ?_) rfl (by kernel_rfl) (by kernel_rfl) (by kernel_rfl) (fun _ _ _ h => h) (Or.inl ⟨by rfl, ?_⟩) (by assumption) ?_
  rotate_left
  · intro W hSw
    have hq9 := hSw.1.cell
    have hq12 := hSw.2.1.cell
    clear hSw
    go_simp
    (try with_reducible rfl)
  (try simp only [Act.put, List.getElem_toArray, List.getElem_cons_succ, List.getElem_cons_zero, List.setIfInBounds_toArray, List.set_cons_zero, List.set_cons_succ])
  refine wpAnyH_take (i := 7) (v := ?_) rfl (by kernel_rfl) (by kernel_rfl) (by kernel_rfl) (fun _ _ _ h => h) (Or.inl ⟨by rfl, ?_⟩) (by assumption) ?_
  rotate_left
  · intro W hSw
    have hq9 := hSw.1.cell
    have hq12 := hSw.2.1.cell
    clear hSw
    go_simp
    (try with_reducible rfl)
  (try simp only [Act.put, List.getElem_toArray, List.getElem_cons_succ, List.getElem_cons_zero, List.setIfInBounds_toArray, List.set_cons_zero, List.set_cons_succ])
  refine wpAnyH_take (i := 8) (v := ?_) rfl (by kernel_rfl) (by kernel_rfl) (by kernel_rfl) (fun _ _ _ h => h) (Or.inl ⟨by rfl, ?_⟩) (by assumption) ?_
  rotate_left
  · intro W hSw
    have hq9 := hSw.1.cell
    have hq12 := hSw.2.1.cell
    clear hSw
    go_simp
    (try with_reducible rfl)
  (try simp only [Act.put, List.getElem_toArray, List.getElem_cons_succ, List.getElem_cons_zero, List.setIfInBounds_toArray, List.set_cons_zero, List.set_cons_succ])
  refine wpAnyH_ready (rs := [9]) (by kernel_rfl) (by simp) ?_
  refine AllReadyH.cons rfl (fun K hK => ?_) AllReadyH.nil
  rw [if_pos (by rfl)]
  simp only [List.getElem_toArray, List.getElem_cons_succ, List.getElem_cons_zero]
  go_simp
  go_at_call 25
  have hcall := rright_any (retryM m id g now) A2 c2 _ ((Strs.of_row hrow3.out).below hHeld.2.2.2) HS.out (by show (ownB _ _).size ≤ _; omega) hz2 hz3
  rw [hright] at hcall
  refine hcall.mono ?_
  clear hcall
  rintro e w7 ⟨rfl, hb⟩
  dsimp only
  refine hK.out _ _ ?_ (fun hHeld2 => ?_)
  · exact ⟨hHeld.1.later hb, hHeld.2.1.later hb, bstep hHeld.2.2.1 hb, bstep hHeld.2.2.2 hb⟩
  clear hK K hHeld
  have hHeld := hHeld2
  clear hHeld2
  (try simp only [Act.put, List.getElem_toArray, List.getElem_cons_succ, List.getElem_cons_zero, List.setIfInBounds_toArray, List.set_cons_zero, List.set_cons_succ])
  refine wpAnyH_take (i := 10) (v := ?_) rfl (by kernel_rfl) (by kernel_rfl) (by kernel_rfl) (fun _ _ _ h => h) (Or.inl ⟨by rfl, ?_⟩) (by assumption) ?_
  rotate_left
  · intro W hSw
    have hq9 := hSw.1.cell
    have hq12 := hSw.2.1.cell
    clear hSw
    go_simp
    (try with_reducible rfl)
  (try simp only [Act.put, List.getElem_toArray, List.getElem_cons_succ, List.getElem_cons_zero, List.setIfInBounds_toArray, List.set_cons_zero, List.set_cons_succ])
  refine wpAnyH_take (i := 11) (v := ?_) rfl (by kernel_rfl) (by kernel_rfl) (by kernel_rfl) (fun _ _ _ h => h) (Or.inl ⟨by rfl, ?_⟩) (by assumption) ?_
  rotate_left
  · intro W hSw
    have hq9 := hSw.1.cell
    have hq12 := hSw.2.1.cell
    clear hSw
    go_simp
    (try with_reducible rfl)
  (try simp only [Act.put, List.getElem_toArray, List.getElem_cons_succ, List.getElem_cons_zero, List.setIfInBounds_toArray, List.set_cons_zero, List.set_cons_succ])
  refine wpAnyH_take (i := 12) (v := ?_) rfl (by kernel_rfl) (by kernel_rfl) (by kernel_rfl) (fun _ _ _ h => h) (Or.inl ⟨by rfl, ?_⟩) (by assumption) ?_
  rotate_left
  · intro W hSw
    have hq9 := hSw.1.cell
    have hq12 := hSw.2.1.cell
    clear hSw
    go_simp
    (try with_reducible rfl)
  (try simp only [Act.put, List.getElem_toArray, List.getElem_cons_succ, List.getElem_cons_zero, List.setIfInBounds_toArray, List.set_cons_zero, List.set_cons_succ])
  refine wpAnyH_take (i := 13) (v := ?_) rfl (by kernel_rfl) (by kernel_rfl) (by kernel_rfl) (fun _ _ _ h => h) (Or.inl ⟨by rfl, ?_⟩) (by assumption) ?_
  rotate_left
  · intro W hSw
    have hq9 := hSw.1.cell
    have hq12 := hSw.2.1.cell
    clear hSw
    go_simp
    (try with_reducible rfl)
  (try simp only [Act.put, List.getElem_toArray, List.getElem_cons_succ, List.getElem_cons_zero, List.setIfInBounds_toArray, List.set_cons_zero, List.set_cons_succ])
  refine wpAnyH_take (i := 14) (v := ?_) rfl (by kernel_rfl) (by kernel_rfl) (by kernel_rfl) (fun _ _ _ h => h) (Or.inl ⟨by rfl, ?_⟩) (by assumption) ?_
  rotate_left
  · intro W hSw
    have hq9 := hSw.1.cell
    have hq12 := hSw.2.1.cell
    clear hSw
    go_simp
    (try with_reducible rfl)
  (try simp only [Act.put, List.getElem_toArray, List.getElem_cons_succ, List.getElem_cons_zero, List.setIfInBounds_toArray, List.set_cons_zero, List.set_cons_succ])
  refine wpAnyH_take (i := 15) (v := ?_) rfl (by kernel_rfl) (by kernel_rfl) (by kernel_rfl) (fun _ _ _ h => h) (Or.inl ⟨by rfl, ?_⟩) (by assumption) ?_
  rotate_left
  · intro W hSw
    have hq9 := hSw.1.cell
    have hq12 := hSw.2.1.cell
    clear hSw
    go_simp
    (try with_reducible rfl)
  (try simp only [Act.put, List.getElem_toArray, List.getElem_cons_succ, List.getElem_cons_zero, List.setIfInBounds_toArray, List.set_cons_zero, List.set_cons_succ])
  refine wpAnyH_take (i := 16) (v := ?_) rfl (by kernel_rfl) (by kernel_rfl) (by kernel_rfl) (fun _ _ _ h => h) (Or.inl ⟨by rfl, ?_⟩) (by assumption) ?_
  rotate_left
  · intro W hSw
    have hq9 := hSw.1.cell
    have hq12 := hSw.2.1.cell
    clear hSw
    go_simp
    (try with_reducible rfl)
  (try simp only [Act.put, List.getElem_toArray, List.getElem_cons_succ, List.getElem_cons_zero, List.setIfInBounds_toArray, List.set_cons_zero, List.set_cons_succ])
  refine wpAnyH_take (i := 17) (v := ?_) rfl (by kernel_rfl) (by kernel_rfl) (by kernel_rfl) (fun _ _ _ h => h) (Or.inl ⟨by rfl, ?_⟩) (by assumption) ?_
  rotate_left
  · intro W hSw
    have hq9 := hSw.1.cell
    have hq12 := hSw.2.1.cell
    clear hSw
    go_simp
    (try with_reducible rfl)
  (try simp only [Act.put, List.getElem_toArray, List.getElem_cons_succ, List.getElem_cons_zero, List.setIfInBounds_toArray, List.set_cons_zero, List.set_cons_succ])
  refine wpAnyH_take (i := 18) (v := ?_) rfl (by kernel_rfl) (by kernel_rfl) (by kernel_rfl) (fun _ _ _ h => h) (Or.inl ⟨by rfl, ?_⟩) (by assumption) ?_
  rotate_left
  · intro W hSw
    have hq9 := hSw.1.cell
    have hq12 := hSw.2.1.cell
    clear hSw
    go_simp
    (try with_reducible rfl)
  (try simp only [Act.put, List.getElem_toArray, List.getElem_cons_succ, List.getElem_cons_zero, List.setIfInBounds_toArray, List.set_cons_zero, List.set_cons_succ])
  refine wpAnyH_take (i := 19) (v := ?_) rfl (by kernel_rfl) (by kernel_rfl) (by kernel_rfl) (fun _ _ _ h => h) (Or.inl ⟨by rfl, ?_⟩) (by assumption) ?_
  rotate_left
  · intro W hSw
    have hq9 := hSw.1.cell
    have hq12 := hSw.2.1.cell
    clear hSw
    go_simp
    (try with_reducible rfl)
  (try simp only [Act.put, List.getElem_toArray, List.getElem_cons_succ, List.getElem_cons_zero, List.setIfInBounds_toArray, List.set_cons_zero, List.set_cons_succ])
  refine wpAnyH_take (i := 20) (v := ?_) rfl (by kernel_rfl) (by kernel_rfl) (by kernel_rfl) (fun _ _ _ h => h) (Or.inl ⟨by rfl, ?_⟩) (by assumption) ?_
  rotate_left
  · intro W hSw
    have hq9 := hSw.1.cell
    have hq12 := hSw.2.1.cell
    clear hSw
    go_simp
    (try with_reducible rfl)
  (try simp only [Act.put, List.getElem_toArray, List.getElem_cons_succ, List.getElem_cons_zero, List.setIfInBounds_toArray, List.set_cons_zero, List.set_cons_succ])
  refine wpAnyH_take (i := 21) (v := ?_) rfl (by kernel_rfl) (by kernel_rfl) (by kernel_rfl) (fun _ _ _ h => h) (Or.inl ⟨by rfl, ?_⟩) (by assumption) ?_
  rotate_left
  · intro W hSw
    have hq9 := hSw.1.cell
    have hq12 := hSw.2.1.cell
    clear hSw
    go_simp
    (try with_reducible rfl)
  (try simp only [Act.put, List.getElem_toArray, List.getElem_cons_succ, List.getElem_cons_zero, List.setIfInBounds_toArray, List.set_cons_zero, List.set_cons_succ])
  refine wpAnyH_ready (rs := [22]) (by kernel_rfl) (by simp) ?_
  refine AllReadyH.cons rfl (fun K hK => ?_) AllReadyH.nil
  rw [if_pos (by rfl)]
  simp only [List.getElem_toArray, List.getElem_cons_succ, List.getElem_cons_zero]
  go_simp
  go_at_call 26
  refine (delay_any _ _ (by omega) (by omega)).mono ?_
  rintro e w' ⟨rfl, rfl⟩
  dsimp only
  refine hK.out _ _ ?_ (fun hHeld2 => ?_)
  · exact hHeld
  clear hK K hHeld
  have hHeld := hHeld2
  clear hHeld2
  (try simp only [Act.put, List.getElem_toArray, List.getElem_cons_succ, List.getElem_cons_zero, List.setIfInBounds_toArray, List.set_cons_zero, List.set_cons_succ])
  refine wpAnyH_take (i := 23) (v := ?_) rfl (by kernel_rfl) (by kernel_rfl) (by kernel_rfl) (fun _ _ _ h => h) (Or.inl ⟨by rfl, ?_⟩) (by assumption) ?_
  rotate_left
  · intro W hSw
    have hq9 := hSw.1.cell
    have hq12 := hSw.2.1.cell
    clear hSw
    go_simp
    (try with_reducible rfl)
  (try simp only [Act.put, List.getElem_toArray, List.getElem_cons_succ, List.getElem_cons_zero, List.setIfInBounds_toArray, List.set_cons_zero, List.set_cons_succ])
  refine wpAnyH_take (i := 24) (v := ?_) rfl (by kernel_rfl) (by kernel_rfl) (by kernel_rfl) (fun _ _ _ h => h) (Or.inl ⟨by rfl, ?_⟩) (by assumption) ?_
  rotate_left
  · intro W hSw
    have hq9 := hSw.1.cell
    have hq12 := hSw.2.1.cell
    clear hSw
    go_simp
    (try with_reducible rfl)
  (try simp only [Act.put, List.getElem_toArray, List.getElem_cons_succ, List.getElem_cons_zero, List.setIfInBounds_toArray, List.set_cons_zero, List.set_cons_succ])
  refine wpAnyH_take (i := 25) (v := ?_) rfl (by kernel_rfl) (by kernel_rfl) (by kernel_rfl) (fun _ _ _ h => h) (Or.inl ⟨by rfl, ?_⟩) (by assumption) ?_
  rotate_left
  · intro W hSw
    have hq9 := hSw.1.cell
    have hq12 := hSw.2.1.cell
    clear hSw
    go_simp
    (try with_reducible rfl)
  (try simp only [Act.put, List.getElem_toArray, List.getElem_cons_succ, List.getElem_cons_zero, List.setIfInBounds_toArray, List.set_cons_zero, List.set_cons_succ])
  refine wpAnyH_take (i := 26) (v := ?_) rfl (by kernel_rfl) (by kernel_rfl) (by kernel_rfl) (fun _ _ _ h => h) (Or.inl ⟨by rfl, ?_⟩) (by assumption) ?_
  rotate_left
  · intro W hSw
    have hq9 := hSw.1.cell
    have hq12 := hSw.2.1.cell
    clear hSw
    go_simp
    (try with_reducible rfl)
  (try simp only [Act.put, List.getElem_toArray, List.getElem_cons_succ, List.getElem_cons_zero, List.setIfInBounds_toArray, List.set_cons_zero, List.set_cons_succ])
  refine wpAnyH_done (by kernel_rfl) ?_ _
  go_wp2
  go_ret
  exact ⟨rfl, hHeld.2.2.1⟩


theorem law_again_any (m : Msg) (A : Option Addr) (c : Nat) (id : Int) (g : ByteArray) (now : Int) (w : World) (hl : Strs w A m.keys) (wi : (Lit.int .i64 id).wf = true) (wn : (Lit.int .i64 now).wf = true) :
    Calls Try.prog 5 #[.agg #[.int .i64 m.kind, .int .i64 m.queue, .int .i64 m.due, .int .i64 m.retry, .int .i64 m.ref, .int .i64 m.born, .string m.topic, .string m.tag, .string m.body, .slice A m.keys.length c], .string g, .agg #[.int .i64 id, .int .i64 now]] w fun e w' => e = .returned (.bool true) ∧ Below w.heap.size w w' := by
  rcases Bool.eq_false_or_eq_true (greatM m) with hG | hG
  · exact la_0 m A c id g now w hl wi wn hG
  rcases Bool.eq_false_or_eq_true (decide ((100 : Int) < (g.size : Int))) with hS | hS
  · exact la_1 m A c id g now w hl wi wn hG hS
  rcases Bool.eq_false_or_eq_true (groupL (L g)) with f0 | f0
  rotate_left
  · exact la_g m A c id g now w hl wi wn hG hS f0
  rcases Bool.eq_false_or_eq_true (rightM m) with f1 | f1
  rotate_left
  · exact la_r m A c id g now w hl wi wn hG hS f0 f1
  rcases kind13 m.kind with ⟨k1, k3, n1, n3⟩ | ⟨k1, k3, n1, n3⟩ | ⟨k1, k3, n1, n3⟩
  rotate_left 2
  · exact la_k m A c id g now w hl wi wn hG hS f0 f1 k1 k3 n1 n3
  all_goals
    rcases Bool.eq_false_or_eq_true (okT id) with t0 | t0
    rotate_left
    · first
        | exact la_i1 m A c id g now w hl wi wn hG hS f0 f1 k1 k3 n1 n3 t0
        | exact la_i3 m A c id g now w hl wi wn hG hS f0 f1 k1 k3 n1 n3 t0
    rcases Bool.eq_false_or_eq_true (okT now) with t1 | t1
    rotate_left
    · first
        | exact la_n1 m A c id g now w hl wi wn hG hS f0 f1 k1 k3 n1 n3 t0 t1
        | exact la_n3 m A c id g now w hl wi wn hG hS f0 f1 k1 k3 n1 n3 t0 t1
    rcases Bool.eq_false_or_eq_true (decide (m.retry < 4)) with f3 | f3
    · first
        | exact la_y1 m A c id g now w hl wi wn hG hS f0 f1 k1 k3 n1 n3 t0 t1 f3
        | exact la_y3 m A c id g now w hl wi wn hG hS f0 f1 k1 k3 n1 n3 t0 t1 f3
    · first
        | exact la_d1 m A c id g now w hl wi wn hG hS f0 f1 k1 k3 n1 n3 t0 t1 f3
        | exact la_d3 m A c id g now w hl wi wn hG hS f0 f1 k1 k3 n1 n3 t0 t1 f3

end Go.Proofs.Ytnlpohcnlmdocaa
