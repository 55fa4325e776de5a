/- What is too great for the statements. -/
import Derived.Test.YtnlpohcnlmdocaaAgain3
namespace Go.Proofs.Ytnlpohcnlmdocaa
open Go.RowKit Go.Shelf
set_option linter.unusedSimpArgs false
set_option linter.unusedVariables false

set_option maxHeartbeats 1000000 in
theorem awake_any (w : World) : Calls Try.prog 9 #[] w fun e w' => e = .returned (.bool true) ∧ w = w' := by
  go_enter Try.func9, Try.ntmps9
  go_wp2_with (first
    | (go_at_call 26; refine (delay_any 3 _ (by omega) (by omega)).mono ?_; rintro e w' ⟨rfl, rfl⟩)
    | (go_at_call 10; go_enter Try.func10, Try.ntmps10; go_wp2))
  go_ret
  exact ⟨rfl, rfl⟩

def bigK (l : List ByteArray) : Bool := l.any fun s => decide ((100 : Int) < (s.size : Int))
theorem any_take {l : List ByteArray} {p : ByteArray → Bool} {k : Nat} (h : k < l.length) (hA : (l.take k).any p = false) (hk : p l[k] = false) : (l.take (k + 1)).any p = false := by
  rw [List.take_succ_eq_append_getElem h, List.any_append, hA]; simp [hk]
theorem any_bad {l : List ByteArray} {p : ByteArray → Bool} {k : Nat} (h : k < l.length) (hk : p l[k] = true) : l.any p = true := by
  rw [List.any_eq_true]; exact ⟨l[k], List.getElem_mem h, hk⟩
theorem any_good {l : List ByteArray} {p : ByteArray → Bool} {k : Nat} (h : ¬ k < l.length) (hA : (l.take k).any p = false) : l.any p = false := by
  rw [List.take_of_length_le (by omega)] at hA; exact hA

def greatM (m : Msg) : Bool := decide ((2000 : Int) < (m.body.size : Int)) || (decide ((100 : Int) < (m.topic.size : Int)) || (decide ((100 : Int) < (m.tag.size : Int)) || (decide ((10 : Int) < (m.keys.length : Int)) || bigK m.keys)))


set_option maxHeartbeats 8000000 in
theorem great_0 (m : Msg) (A : Option Addr) (c : Nat) (b : Nat) (w : World) (hb : Blk w b 39 #[.int .i64 m.kind, .int .i64 m.queue, .int .i64 m.due, .int .i64 m.retry, .int .i64 m.ref, .int .i64 m.born, .string m.topic, .string m.tag, .string m.body, .slice A m.keys.length c])  (h : decide ((2000 : Int) < (m.body.size : Int)) = true) :
    Calls Try.prog 20 #[.slice (some ⟨b, 0, none⟩) 1 1] w fun e w' => e = .returned (.bool (greatM m)) ∧ Below w.heap.size w w' := by
  have HR := Lib.hid (show greatM m = true by simp only [greatM, h, Bool.false_or, Bool.true_or])
  have hc := hb.cell
  go_enter Try.func20, Try.ntmps20
  go_wp2
  refine wp_loop_rounds 1 ?_
  rw [rounds_succ]
  go_wp2
  go_ret
  exact ⟨ret_bool HR.out.symm, balloc (Below.refl _ _)⟩


set_option maxHeartbeats 8000000 in
theorem great_1 (m : Msg) (A : Option Addr) (c : Nat) (b : Nat) (w : World) (hb : Blk w b 39 #[.int .i64 m.kind, .int .i64 m.queue, .int .i64 m.due, .int .i64 m.retry, .int .i64 m.ref, .int .i64 m.born, .string m.topic, .string m.tag, .string m.body, .slice A m.keys.length c]) (h0 : decide ((2000 : Int) < (m.body.size : Int)) = false) (h : decide ((100 : Int) < (m.topic.size : Int)) = true) :
    Calls Try.prog 20 #[.slice (some ⟨b, 0, none⟩) 1 1] w fun e w' => e = .returned (.bool (greatM m)) ∧ Below w.heap.size w w' := by
  have HR := Lib.hid (show greatM m = true by simp only [greatM, h0, h, Bool.false_or, Bool.true_or])
  have hc := hb.cell
  go_enter Try.func20, Try.ntmps20
  go_wp2
  refine wp_loop_rounds 1 ?_
  rw [rounds_succ]
  go_wp2
  go_ret
  exact ⟨ret_bool HR.out.symm, balloc (Below.refl _ _)⟩


set_option maxHeartbeats 8000000 in
theorem great_2 (m : Msg) (A : Option Addr) (c : Nat) (b : Nat) (w : World) (hb : Blk w b 39 #[.int .i64 m.kind, .int .i64 m.queue, .int .i64 m.due, .int .i64 m.retry, .int .i64 m.ref, .int .i64 m.born, .string m.topic, .string m.tag, .string m.body, .slice A m.keys.length c]) (h0 : decide ((2000 : Int) < (m.body.size : Int)) = false) (h1 : decide ((100 : Int) < (m.topic.size : Int)) = false) (h : decide ((100 : Int) < (m.tag.size : Int)) = true) :
    Calls Try.prog 20 #[.slice (some ⟨b, 0, none⟩) 1 1] w fun e w' => e = .returned (.bool (greatM m)) ∧ Below w.heap.size w w' := by
  have HR := Lib.hid (show greatM m = true by simp only [greatM, h0, h1, h, Bool.false_or, Bool.true_or])
  have hc := hb.cell
  go_enter Try.func20, Try.ntmps20
  go_wp2
  refine wp_loop_rounds 1 ?_
  rw [rounds_succ]
  go_wp2
  go_ret
  exact ⟨ret_bool HR.out.symm, balloc (Below.refl _ _)⟩


set_option maxHeartbeats 8000000 in
theorem great_3 (m : Msg) (A : Option Addr) (c : Nat) (b : Nat) (w : World) (hb : Blk w b 39 #[.int .i64 m.kind, .int .i64 m.queue, .int .i64 m.due, .int .i64 m.retry, .int .i64 m.ref, .int .i64 m.born, .string m.topic, .string m.tag, .string m.body, .slice A m.keys.length c]) (h0 : decide ((2000 : Int) < (m.body.size : Int)) = false) (h1 : decide ((100 : Int) < (m.topic.size : Int)) = false) (h2 : decide ((100 : Int) < (m.tag.size : Int)) = false) (h : decide ((10 : Int) < (m.keys.length : Int)) = true) :
    Calls Try.prog 20 #[.slice (some ⟨b, 0, none⟩) 1 1] w fun e w' => e = .returned (.bool (greatM m)) ∧ Below w.heap.size w w' := by
  have HR := Lib.hid (show greatM m = true by simp only [greatM, h0, h1, h2, h, Bool.false_or, Bool.true_or])
  have hc := hb.cell
  go_enter Try.func20, Try.ntmps20
  go_wp2
  refine wp_loop_rounds 1 ?_
  rw [rounds_succ]
  go_wp2
  go_ret
  exact ⟨ret_bool HR.out.symm, balloc (Below.refl _ _)⟩


set_option maxHeartbeats 8000000 in
theorem great_k (m : Msg) (A : Option Addr) (c : Nat) (b : Nat) (w : World) (hl : Strs w A m.keys) (hb : Blk w b 39 #[.int .i64 m.kind, .int .i64 m.queue, .int .i64 m.due, .int .i64 m.retry, .int .i64 m.ref, .int .i64 m.born, .string m.topic, .string m.tag, .string m.body, .slice A m.keys.length c]) (h0 : decide ((2000 : Int) < (m.body.size : Int)) = false) (h1 : decide ((100 : Int) < (m.topic.size : Int)) = false) (h2 : decide ((100 : Int) < (m.tag.size : Int)) = false) (h3 : decide ((10 : Int) < (m.keys.length : Int)) = false) :
    Calls Try.prog 20 #[.slice (some ⟨b, 0, none⟩) 1 1] w fun e w' => e = .returned (.bool (greatM m)) ∧ Below w.heap.size w w' := by
  have HR := Lib.hid (show greatM m = bigK m.keys by simp only [greatM, h0, h1, h2, h3, Bool.false_or])
  have HN := Lib.hid (show m.keys.length ≤ 10 by simp at h3; omega)
  have HL := Lib.hid hl
  clear hl
  have hc := hb.cell
  go_enter Try.func20, Try.ntmps20
  go_wp2
  refine wp_loop_rounds 2 ?_
  rw [rounds_succ]
  go_wp2
  have HB : Below w.heap.size w (w.alloc (.cells #[.int .i64 m.kind, .int .i64 m.queue, .int .i64 m.due, .int .i64 m.retry, .int .i64 m.ref, .int .i64 m.born, .string m.topic, .string m.tag, .string m.body, .slice A m.keys.length c] 39)) := balloc (Below.refl _ _)
  go_loop [38] (fun i => ∃ k : Nat, k ≤ m.keys.length ∧ i = .int .i64 k ∧ Hid ((m.keys.take k).any (fun s => decide ((100 : Int) < (s.size : Int))) = false)) (fun i => m.keys.length - (intOf i).toNat)
  case atStart => exact ⟨0, Nat.zero_le _, rfl, rfl⟩
  case round =>
    obtain ⟨k, hk, rfl, HA⟩ := hrel
    by_cases hlt : k < m.keys.length
    · obtain ⟨b', o, rfl, hc'⟩ := (HL.out.below HB) (by intro e; rw [e] at hlt; simp at hlt)
      have hck := hc' k hlt
      obtain ⟨x, hx⟩ : ∃ x, m.keys[k] = x := ⟨_, rfl⟩
      rw [hx] at hck
      have HX := Lib.hid hx
      have h10 := HN.out
      clear hc' hx
      rcases Bool.eq_false_or_eq_true (decide ((100 : Int) < (x.size : Int))) with hK | hK
      · have HK := Lib.hid (any_bad (p := fun s => decide ((100 : Int) < (s.size : Int))) hlt (by rw [HX.out]; exact hK))
        go_wp2
        go_ret
        exact ⟨ret_bool (by rw [HR.out]; exact HK.out.symm), HB⟩
      · go_wp2
        go_round
        case rel => exact ⟨k + 1, by omega, by go_num, any_take hlt HA.out (by rw [HX.out]; exact hK)⟩
        case measure => simp [intOf]; omega
    · have HK := Lib.hid (any_good hlt HA.out)
      go_wp2
      rw [rounds_succ]
      go_wp2
      go_ret
      exact ⟨ret_bool (by rw [HR.out]; exact HK.out.symm), HB⟩

theorem great_any (m : Msg) (A : Option Addr) (c : Nat) (b : Nat) (w : World) (hl : Strs w A m.keys) (hb : Blk w b 39 #[.int .i64 m.kind, .int .i64 m.queue, .int .i64 m.due, .int .i64 m.retry, .int .i64 m.ref, .int .i64 m.born, .string m.topic, .string m.tag, .string m.body, .slice A m.keys.length c]) :
    Calls Try.prog 20 #[.slice (some ⟨b, 0, none⟩) 1 1] w fun e w' => e = .returned (.bool (greatM m)) ∧ Below w.heap.size w w' := by
  rcases Bool.eq_false_or_eq_true (decide ((2000 : Int) < (m.body.size : Int))) with h0 | h0
  · exact great_0 m A c b w hb h0
  rcases Bool.eq_false_or_eq_true (decide ((100 : Int) < (m.topic.size : Int))) with h1 | h1
  · exact great_1 m A c b w hb h0 h1
  rcases Bool.eq_false_or_eq_true (decide ((100 : Int) < (m.tag.size : Int))) with h2 | h2
  · exact great_2 m A c b w hb h0 h1 h2
  rcases Bool.eq_false_or_eq_true (decide ((10 : Int) < (m.keys.length : Int))) with h3 | h3
  · exact great_3 m A c b w hb h0 h1 h2 h3
  exact great_k m A c b w hl hb h0 h1 h2 h3

end Go.Proofs.Ytnlpohcnlmdocaa
