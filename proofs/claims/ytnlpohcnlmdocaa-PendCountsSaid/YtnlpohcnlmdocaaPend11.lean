/- What is still to come: the document's example. -/
import Derived.Test.YtnlpohcnlmdocaaPend10
namespace Go.Proofs.Ytnlpohcnlmdocaa
open Go.RowKit Go.Shelf Go.Maps
set_option linter.unusedSimpArgs false
set_option linter.unusedVariables false

theorem st_put_same {D : DataW Unit} (h : Maps.IsMap D) (id : Int) (c : Int × Int) : st (D.put (.int .i64 id) (oneD c)) id = c := st_of (Maps.atKey_put_same (k := .int .i64 id) h trivial _ _)
theorem below_turned {w a a' : World} {b : Nat} (h : Below w.heap.size w a) (hg : a.grownBy a' (some b)) (hb : w.heap.size ≤ b) : Below w.heap.size w a' :=
  ⟨hg.os.trans h.os, hg.tape.trans h.tape, hg.output.trans h.output, Nat.le_trans h.size hg.size, fun k hk => (hg.block k (by have := h.size; omega) (by intro e; have := Option.some.inj e; omega)).trans (h.block k hk)⟩

def D1 : DataW Unit := (DataW.map []).put (.int .i64 5) (oneD (1, 9))
def D2 : DataW Unit := D1.put (.int .i64 5) (oneD (2, 0))
theorem isMap1 : Maps.IsMap D1 := Maps.isMap_empty.put _ _
theorem st1 : st D1 5 = (1, 9) := st_put_same Maps.isMap_empty 5 (1, 9)
theorem st2 : st D2 5 = (2, 0) := st_put_same isMap1 5 (2, 0)
theorem note1 : noteN (.map []) 5 2 9 0 = some D1 := by
  unfold noteN
  rw [if_neg (by decide), if_neg (by decide), if_neg (by decide), if_pos rfl, if_pos]
  · rfl
  · exact st_of rfl
theorem note2 : noteN D1 6 3 0 5 = some D2 := by
  unfold noteN
  rw [if_neg (by decide), if_pos rfl, if_pos (by rw [st1])]
  rfl
theorem note3 : noteN D2 7 4 0 5 = none := by
  unfold noteN
  rw [if_neg (by decide), if_neg (by decide), if_pos rfl, if_neg (by rw [st2]; decide)]

set_option maxRecDepth 100000 in
set_option maxHeartbeats 8000000 in
theorem awake17_any (w : World) : Calls Try.prog 13 #[] w fun e w' => e = .returned (.bool true) ∧ Below w.heap.size w w' := by
  go_enter Try.func13, Try.ntmps13
  go_wp2_with fail
  refine (newP_any w).mono ?_
  rintro e w1 ⟨⟨g, b, rfl, hP1, hg, hb⟩, hb1⟩
  have HP1 := Lib.hid hP1
  have HB1 := Lib.hid hb1
  clear hP1 hb1
  go_wp2_with fail
  refine (note_any g b 0 (.map []) 5 2 9 0 w1 HP1.out (by decide) rfl rfl).mono ?_
  rintro e w2 ⟨rfl, hP2, hg2⟩
  rw [note1]
  rw [note1, Option.getD_some] at hP2
  have HP2 := Lib.hid hP2
  have HB2 := Lib.hid (below_turned HB1.out hg2 hb)
  clear hP2 hg2
  rw [Option.isSome_some]
  go_wp2_with fail
  refine (note_any g b 1 D1 6 3 0 5 w2 HP2.out (by decide) rfl rfl).mono ?_
  rintro e w3 ⟨rfl, hP3, hg3⟩
  rw [note2]
  rw [note2, Option.getD_some] at hP3
  have HP3 := Lib.hid hP3
  have HB3 := Lib.hid (below_turned HB2.out hg3 hb)
  clear hP3 hg3
  rw [Option.isSome_some]
  go_wp2_with fail
  refine (note_any g b 2 D2 7 4 0 5 w3 HP3.out (by decide) rfl rfl).mono ?_
  rintro e w4 ⟨rfl, hP4, hg4⟩
  rw [note3]
  rw [note3, Option.getD_none] at hP4
  have HP4 := Lib.hid hP4
  have HB4 := Lib.hid (below_turned HB3.out hg4 hb)
  clear hP4 hg4
  rw [Option.isSome_none]
  go_wp2_with fail
  refine (state_any g b 3 D2 5 w4 HP4.out rfl).mono ?_
  rintro e w5 ⟨rfl, rfl⟩
  rw [st2]
  go_wp2
  go_ret
  exact ⟨rfl, HB4.out⟩

end Go.Proofs.Ytnlpohcnlmdocaa
