/- The layer of names: each function of the program, and of the document's answer, tells whether a text is a plain name, a group, a topic, a tag, a key. -/
import Derived.Test.YtnlpohcnlmdocaaDoorProg
import Derived.Test.YtnlpohcnlmdocaaDoorA
import Derived.Test.YtnlpohcnlmdocaaDoorShelf
import Derived.Deep.QuietTactic
import Derived.BigQuiet
namespace Go.Proofs.YtnlpohcnlmdocaaDoor
open Go.RowKit Go.Shelf

set_option maxHeartbeats 1000000 in
theorem sign_any (c : Int) (w : World) : Calls Tryd.prog 26 #[.int .i32 c] w fun e w' => e = .returned (.bool (signB c)) ∧ w = w' := by
  go_enter Tryd.func26, Tryd.ntmps26
  go_wp2
  all_goals
    go_ret
    exact ⟨ret_bool (by unfold signB; rw [Bool.eq_iff_iff]; simp; try omega), rfl⟩

set_option maxHeartbeats 1000000 in
theorem notSign (w : World) : PredAt Tryd.prog 25 #[] encR (fun r => !signB (r : Int)) w := fun W r _ => by
  unfold FnGives
  go_enter Tryd.func25, Tryd.ntmps25
  go_wp2_with (go_at_call 26; refine (sign_any _ _).mono ?_; rintro e w' ⟨rfl, rfl⟩)
  go_ret
  exact ⟨rfl, 0, rfl⟩

set_option maxHeartbeats 1000000 in
theorem plain_any (s : ByteArray) (w : World) : Calls Tryd.prog 13 #[.string s] w fun e w' => e = .returned (.bool (plainL (L s))) ∧ Below w.heap.size w w' := by
  have hC := Tryd.strings_IndexFunc 25 #[] (enters_of Tryd.func25 (by kernel_rfl) rfl) _ s w (notSign w)
  rcases Bool.eq_false_or_eq_true s.toList.isEmpty with hE | hE
  · have HP := Lib.hid (plain_none hE)
    go_enter Tryd.func13, Tryd.ntmps13
    go_wp2
    go_ret
    exact ⟨ret_bool HP.out, Below.refl _ _⟩
  by_cases h : s.size ≤ 16
  · have HP := Lib.hid (plain_some hE h)
    go_enter Tryd.func13, Tryd.ntmps13
    go_wp2_with (go_at_call 24; refine hC.mono ?_; rintro e w' ⟨rfl, hb⟩)
    go_ret
    exact ⟨ret_bool HP.out, hb⟩
  · have HP := Lib.hid (plain_long h)
    go_enter Tryd.func13, Tryd.ntmps13
    go_wp2
    go_ret
    exact ⟨ret_bool HP.out, Below.refl _ _⟩

end Go.Proofs.YtnlpohcnlmdocaaDoor
