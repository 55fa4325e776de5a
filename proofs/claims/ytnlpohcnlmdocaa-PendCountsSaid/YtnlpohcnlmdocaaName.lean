/- The layer of names: each function of the program, and of the document's answer, tells whether a text is a plain name, a group, a topic, a tag, a key. -/
import Derived.Test.YtnlpohcnlmdocaaProg
import Derived.Test.YtnlpohcnlmdocaaA
import Derived.Test.YtnlpohcnlmdocaaShelf
import Derived.Deep.QuietTactic
import Derived.BigQuiet
namespace Go.Proofs.Ytnlpohcnlmdocaa
open Go.RowKit Go.Shelf

set_option maxHeartbeats 1000000 in
theorem sign_any (c : Int) (w : World) : Calls Try.prog 102 #[.int .i32 c] w fun e w' => e = .returned (.bool (signB c)) ∧ w = w' := by
  go_enter Try.func102, Try.ntmps102
  go_wp2
  all_goals
    go_ret
    exact ⟨ret_bool (by unfold signB; rw [Bool.eq_iff_iff]; simp; try omega), rfl⟩

set_option maxHeartbeats 1000000 in
theorem notSign (w : World) : PredAt Try.prog 101 #[] encR (fun r => !signB (r : Int)) w := fun W r _ => by
  unfold FnGives
  go_enter Try.func101, Try.ntmps101
  go_wp2_with (go_at_call 102; refine (sign_any _ _).mono ?_; rintro e w' ⟨rfl, rfl⟩)
  go_ret
  exact ⟨rfl, 0, rfl⟩

set_option maxHeartbeats 1000000 in
theorem plain_any (s : ByteArray) (w : World) : Calls Try.prog 71 #[.string s] w fun e w' => e = .returned (.bool (plainL (L s))) ∧ Below w.heap.size w w' := by
  have hC := Try.strings_IndexFunc 101 #[] (enters_of Try.func101 (by kernel_rfl) rfl) _ s w (notSign w)
  rcases Bool.eq_false_or_eq_true s.toList.isEmpty with hE | hE
  · have HP := Lib.hid (plain_none hE)
    go_enter Try.func71, Try.ntmps71
    go_wp2
    go_ret
    exact ⟨ret_bool HP.out, Below.refl _ _⟩
  by_cases h : s.size ≤ 16
  · have HP := Lib.hid (plain_some hE h)
    go_enter Try.func71, Try.ntmps71
    go_wp2_with (go_at_call 100; refine hC.mono ?_; rintro e w' ⟨rfl, hb⟩)
    go_ret
    exact ⟨ret_bool HP.out, hb⟩
  · have HP := Lib.hid (plain_long h)
    go_enter Try.func71, Try.ntmps71
    go_wp2
    go_ret
    exact ⟨ret_bool HP.out, Below.refl _ _⟩

end Go.Proofs.Ytnlpohcnlmdocaa
