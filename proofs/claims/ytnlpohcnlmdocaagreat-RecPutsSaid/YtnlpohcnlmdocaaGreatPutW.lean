/- Fillers, and a record's bytes: rec.Fill, rec.Put. -/
import Derived.Test.YtnlpohcnlmdocaaGreatPutL
namespace Go.Proofs.YtnlpohcnlmdocaaGreat
open Go.Shelf Go.RowKit
set_option linter.unusedVariables false
set_option linter.unusedSimpArgs false

theorem nats1 (w : World) (a : Nat) (t : TypeId) : Nats (w.alloc (.cells #[.int .i64 a] t)) (some ⟨w.heap.size, 0, none⟩) [a] := by
  have := ints_new w [(a : Int)] t (by simp)
  simpa [Nats] using this

set_option maxRecDepth 100000 in
set_option maxHeartbeats 4000000 in
theorem fill_no (n : Int) (w : World) (h : n < 3 ∨ 1024 < n) :
    Calls Tryz.prog 15 #[.int .i64 n] w fun e w' => e = .returned (.tuple #[.string ⟨#[]⟩, .bool false]) ∧ Below w.heap.size w w' := by
  rcases h with h | h
  · have d1 : decide (n < 3) = true := decide_eq_true h
    go_enter Tryz.func15, Tryz.ntmps15
    go_wp2
    go_ret2
    exact ⟨rfl, Below.refl _ _⟩
  · have d1 : decide (n < 3) = false := decide_eq_false (by omega)
    have d2 : decide (1024 < n) = true := decide_eq_true h
    go_enter Tryz.func15, Tryz.ntmps15
    go_wp2
    go_ret2
    exact ⟨rfl, Below.refl _ _⟩

set_option maxRecDepth 100000 in
set_option maxHeartbeats 4000000 in
theorem fill_yes (n : Nat) (w : World) (h3 : 3 ≤ n) (hm : n ≤ 1024) :
    Calls Tryz.prog 15 #[.int .i64 n] w fun e w' => e = .returned (.tuple #[.string (B (fillL n)), .bool true]) ∧ Below w.heap.size w w' := by
  have d1 : decide ((n : Int) < 3) = false := decide_eq_false (by omega)
  have d2 : decide ((1024 : Int) < (n : Int)) = false := decide_eq_false (by omega)
  have hN := Lib.hid (oNum_any 2 _ 1 [n] _ (by omega) (by omega) (nats1 w n 3) (by simp) (by simp; omega))
  have hi3 : (n : Int) - 3 = ((n - 3 : Nat) : Int) := by omega
  have z1 : 1 + (B (numsL 2 [n])).size ≤ 9223372036854775807 := by rw [B_size, numsL_len]; simp
  have z2 : ((⟨#[90]⟩ : ByteArray) ++ B (numsL 2 [n])).size + (B (noughtsL (n - 3))).size ≤ 9223372036854775807 := by
    rw [ByteArray.size_append, B_size, B_size, numsL_len]; simp [noughtsL, ByteArray.size]; omega
  have HZ := Lib.hid (show (⟨#[90]⟩ : ByteArray) ++ B (numsL 2 [n]) ++ B (noughtsL (n - 3)) = B (fillL n) from L_inj (by simp only [L_app, L_B, fillL, numsL, List.map_cons, List.map_nil, List.flatten_cons, List.flatten_nil, List.append_nil]; rfl))
  go_enter Tryz.func15, Tryz.ntmps15
  go_wp2_with fail
  refine (show Calls _ _ #[.int .i64 2, .slice _ 1 1] _ _ from by simpa using hN.out).mono ?_
  rintro e w1 ⟨rfl, hb1⟩
  have HB1 : Below w.heap.size w w1 := (balloc (o := .cells #[.int .i64 n] 3) (Below.refl w.heap.size w)).trans (hb1.mono (by omega))
  go_wp2_with (go_at_call 21; refine (noughts_any (n - 3) _ (by omega)).mono ?_; rintro e w2 ⟨rfl, hb2⟩)
  go_ret2
  exact ⟨by rw [HZ.out]; rfl, bstep HB1 hb2⟩

def putV (m : Msg) : Value := .tuple #[.string (B ((putL m).getD [])), .int .i64 (if (putL m).isSome then 0 else 1)]
theorem putV_no {m : Msg} (h : putL m = none) : Value.tuple #[.string ⟨#[]⟩, .int .i64 1] = putV m := by unfold putV; rw [h]; rfl
theorem putV_yes {m : Msg} {l : List UInt8} (h : putL m = some l) : Value.tuple #[.string (B l), .int .i64 0] = putV m := by unfold putV; rw [h]; rfl
theorem ret_val {a b : Value} (h : a = b) : Ending.returned a = .returned b := by rw [h]

set_option maxRecDepth 100000 in
set_option maxHeartbeats 8000000 in
theorem put_wrong (m : Msg) (A : Option Addr) (c b : Nat) (w : World) (hl : Strs w A m.keys) (hn : m.keys.length * 16 ≤ 140737488355328) (hs : ∀ s ∈ m.keys, s.size ≤ 9223372036854775807) (hr : rightM m = false) :
    Calls Tryz.prog 10 #[.pointer (some ⟨b, 0, none⟩), .agg #[.int .i64 m.kind, .int .i64 m.queue, .int .i64 m.due, .int .i64 m.retry, .int .i64 m.ref, .int .i64 m.born, .string m.topic, .string m.tag, .string m.body, .slice A m.keys.length c]] w fun e w' => e = .returned (putV m) ∧ Below w.heap.size w w' := by
  have HP := Lib.hid (putV_no (show putL m = none by unfold putL; rw [if_neg (by simp [hr])]))
  have HL := Lib.hid hl
  have HS := Lib.hid hs
  clear hl hs
  have HB := Below.refl w.heap.size w
  go_enter Tryz.func10, Tryz.ntmps10
  go_wp2_with (go_at_call 8; refine (right_any m _ _ _ (HL.out.below (by repeat (first | exact HB | apply balloc))) hn HS.out).mono ?_; rintro e w' ⟨rfl, hb⟩; have HB2 := bstep (by repeat (first | exact HB | apply balloc)) hb)
  go_ret2
  exact ⟨ret_val HP.out, by repeat (first | exact HB2 | apply balloc)⟩

set_option maxRecDepth 100000 in
set_option maxHeartbeats 8000000 in
theorem put_fill (m : Msg) (A : Option Addr) (c b : Nat) (w : World) (hl : Strs w A m.keys) (hn : m.keys.length * 16 ≤ 140737488355328) (hs : ∀ s ∈ m.keys, s.size ≤ 9223372036854775807) (hr : rightM m = true) (hk : (m.kind == 0) = true) (hz : m.body.size ≤ 1024) :
    Calls Tryz.prog 10 #[.pointer (some ⟨b, 0, none⟩), .agg #[.int .i64 m.kind, .int .i64 m.queue, .int .i64 m.due, .int .i64 m.retry, .int .i64 m.ref, .int .i64 m.born, .string m.topic, .string m.tag, .string m.body, .slice A m.keys.length c]] w fun e w' => e = .returned (putV m) ∧ Below w.heap.size w w' := by
  have hk0 : m.kind = 0 := by simpa using hk
  have HL := Lib.hid hl
  have HS := Lib.hid hs
  have HK0 := Lib.hid hk0
  clear hl hs hk0
  have HB := Below.refl w.heap.size w
  by_cases h3 : 3 ≤ m.body.size
  · have HP := Lib.hid (putV_yes (show putL m = some (fillL m.body.size) by unfold putL; rw [if_pos hr, if_pos HK0.out, if_pos h3]))
    go_enter Tryz.func10, Tryz.ntmps10
    go_wp2_with (first
      | (go_at_call 8; refine (right_any m _ _ _ (HL.out.below (by repeat (first | exact HB | apply balloc))) hn HS.out).mono ?_; rintro e w' ⟨rfl, hb⟩; obtain ⟨hc, hf⟩ := bcell hb; have HB2 := bstep (by repeat (first | exact HB | apply balloc)) hb)
      | (go_at_call 15; refine (fill_yes m.body.size _ h3 hz).mono ?_; rintro e w2 ⟨rfl, hb2⟩))
    go_ret2
    exact ⟨ret_val HP.out, bstep HB2 hb2⟩
  · have HP := Lib.hid (putV_no (show putL m = none by unfold putL; rw [if_pos hr, if_pos HK0.out, if_neg h3]))
    go_enter Tryz.func10, Tryz.ntmps10
    go_wp2_with (first
      | (go_at_call 8; refine (right_any m _ _ _ (HL.out.below (by repeat (first | exact HB | apply balloc))) hn HS.out).mono ?_; rintro e w' ⟨rfl, hb⟩; obtain ⟨hc, hf⟩ := bcell hb; have HB2 := bstep (by repeat (first | exact HB | apply balloc)) hb)
      | (go_at_call 15; refine (fill_no m.body.size _ (by omega)).mono ?_; rintro e w2 ⟨rfl, hb2⟩))
    go_ret2
    exact ⟨ret_val HP.out, bstep HB2 hb2⟩

set_option maxRecDepth 100000 in
set_option maxHeartbeats 8000000 in
theorem put_seal (m : Msg) (A : Option Addr) (c b : Nat) (w : World) (hl : Strs w A m.keys) (hn : m.keys.length * 16 ≤ 140737488355328) (hs : ∀ s ∈ m.keys, s.size ≤ 9223372036854775807) (hr : rightM m = true) (hk : (m.kind == 0) = false) (ht : TabAt w b) :
    Calls Tryz.prog 10 #[.pointer (some ⟨b, 0, none⟩), .agg #[.int .i64 m.kind, .int .i64 m.queue, .int .i64 m.due, .int .i64 m.retry, .int .i64 m.ref, .int .i64 m.born, .string m.topic, .string m.tag, .string m.body, .slice A m.keys.length c]] w fun e w' => e = .returned (putV m) ∧ Below w.heap.size w w' := by
  have hk0 : m.kind ≠ 0 := by simpa using hk
  have HI := Lib.hid (right_in hr hk0)
  have HL := Lib.hid hl
  have HS := Lib.hid hs
  have HT := Lib.hid ht
  have HK0 := Lib.hid hk0
  have hlen := insideL_len HI.out
  have hz1 : (B (sealL (insideL m))).size = 4 + (insideL m).length := by rw [B_size, sealL_len]
  have HZ1 := Lib.hid hz1
  have hlt : (B (sealL (insideL m))).size ≤ 2004 := by omega
  clear hl hs hk0 ht hz1
  have HB := Below.refl w.heap.size w
  obtain ⟨y, hy⟩ : ∃ y : Nat, y = 3 + (B (sealL (insideL m))).size := ⟨_, rfl⟩
  have hyc : (3 : Int) + ((B (sealL (insideL m))).size : Int) = (y : Int) := by omega
  have hyl : y < 65536 := by omega
  have e165 : (⟨#[165]⟩ : ByteArray).size = 1 := rfl
  have z2 : 1 + (B (numsL 2 [y])).size ≤ 9223372036854775807 := by rw [B_size, numsL_len]; simp only [List.length_cons, List.length_nil]; omega
  have z3 : ((⟨#[165]⟩ : ByteArray) ++ B (numsL 2 [y])).size + (B (sealL (insideL m))).size ≤ 9223372036854775807 := by
    rw [ByteArray.size_append, B_size (numsL 2 [y]), numsL_len, e165]; simp only [List.length_cons, List.length_nil]; omega
  have HP := Lib.hid (putV_yes (show putL m = some (L ((⟨#[165]⟩ : ByteArray) ++ B (numsL 2 [y]) ++ B (sealL (insideL m)))) by
    unfold putL; rw [if_pos hr, if_neg HK0.out, L_app, L_app, L_B, L_B, hy, HZ1.out, show 3 + (4 + (insideL m).length) = 7 + (insideL m).length by omega]
    simp only [numsL, List.map_cons, List.map_nil, List.flatten_cons, List.flatten_nil, List.append_nil]; rfl))
  have hSl : ∀ W, TabAt W b → Calls Tryz.prog 26 #[.pointer (some ⟨b, 0, none⟩), .string (B (insideL m))] W fun e w' => e = .returned (.string (B (sealL (insideL m)))) ∧ Below W.heap.size W w' := fun W hW => seal_any b (B (insideL m)) W (by rw [B_size]; omega) hW
  have hN := fun W : World => oNum_any 2 _ 1 [y] _ (by omega) (by omega) (nats1 W y 3) (by simp) (by simp; omega)
  simp only [List.length_cons, List.length_nil] at hN
  have HN := Lib.hid hN
  clear hN hy
  have hbs : (B (insideL m)).size ≤ 9223372036854775800 := by rw [B_size]; omega
  go_enter Tryz.func10, Tryz.ntmps10
  go_wp2_with (first
    | (go_at_call 8; refine (right_any m _ _ _ (HL.out.below (by repeat (first | exact HB | apply balloc))) hn HS.out).mono ?_; rintro e w1 ⟨rfl, hb⟩; obtain ⟨hc, hf⟩ := bcell hb; have HB2 := Lib.hid (bstep (show Below w.heap.size w _ by repeat (first | exact HB | apply balloc)) hb))
    | (go_at_call 27; refine (inside_any m A c _ (HL.out.below HB2.out) HI.out).mono ?_; rintro e w2 ⟨rfl, hb2⟩; have HB3 := Lib.hid (bstep HB2.out hb2))
    | (go_at_call 26; refine (hSl _ (HT.out.below HB3.out)).mono ?_; rintro e w3 ⟨rfl, hb3⟩; have HB4 := Lib.hid (bstep HB3.out hb3)))
  refine (show Calls _ _ #[.int .i64 2, .slice _ 1 1] _ _ from by simpa using HN.out w3).mono ?_
  rintro e w4 ⟨rfl, hb4⟩
  have HB5 : Below w.heap.size w w4 := (balloc (o := .cells #[.int .i64 y] 3) HB4.out).trans (hb4.mono (by have := HB4.out.size; omega))
  go_wp2
  go_ret2
  exact ⟨ret_val (by rw [← HP.out, B_L]; rfl), HB5⟩

theorem put_any' (m : Msg) (A : Option Addr) (c b : Nat) (w : World) (hl : Strs w A m.keys) (hn : m.keys.length * 16 ≤ 140737488355328) (hs : ∀ s ∈ m.keys, s.size ≤ 9223372036854775807) (ht : TabAt w b) :
    Calls Tryz.prog 10 #[.pointer (some ⟨b, 0, none⟩), .agg #[.int .i64 m.kind, .int .i64 m.queue, .int .i64 m.due, .int .i64 m.retry, .int .i64 m.ref, .int .i64 m.born, .string m.topic, .string m.tag, .string m.body, .slice A m.keys.length c]] w fun e w' => e = .returned (putV m) ∧ Below w.heap.size w w' := by
  rcases Bool.eq_false_or_eq_true (rightM m) with hr | hr
  · rcases Bool.eq_false_or_eq_true (m.kind == 0) with hk | hk
    · obtain ⟨_, h⟩ := right_kinds hr
      have hk0 : m.kind = 0 := by simpa using hk
      have hz : m.body.size ≤ 1024 := by
        rcases h with ⟨k, _⟩ | ⟨k, _⟩ | ⟨k, _⟩ | ⟨k, _⟩ | ⟨_, hf⟩
        · omega
        · omega
        · omega
        · omega
        · exact (fill_spec hf).1
      exact put_fill m A c b w hl hn hs hr hk hz
    · exact put_seal m A c b w hl hn hs hr hk ht
  · exact put_wrong m A c b w hl hn hs hr

end Go.Proofs.YtnlpohcnlmdocaaGreat
