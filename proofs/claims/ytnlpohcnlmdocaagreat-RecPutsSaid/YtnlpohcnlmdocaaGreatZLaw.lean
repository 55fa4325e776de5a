/- Laws of records: what their statements share. -/
import Derived.Test.YtnlpohcnlmdocaaGreatGetL
import Derived.Test.YtnlpohcnlmdocaaGreatNewW
import Derived.Test.YtnlpohcnlmdocaaGreatPutW
import Derived.Test.YtnlpohcnlmdocaaGreatZGreats
namespace Go.Proofs.YtnlpohcnlmdocaaGreat
open Go.Shelf Go.RowKit
set_option linter.unusedVariables false
set_option linter.unusedSimpArgs false

theorem TabAt.lt {w : World} {b : Nat} (h : TabAt w b) : b < w.heap.size := cell_lt (h 0 0 (by omega) (by omega))
theorem TabAt.belowB {w w' : World} {b B : Nat} (h : TabAt w b) (hb : Below B w w') (hl : b < B) : TabAt w' b := fun k j hk hj => (hb.cell (p := ⟨b, 256 * k + j, none⟩) hl).trans (h k j hk hj)
theorem fill3 : B (fillL 3) = ⟨#[90, 0, 3]⟩ := by apply L_inj; decide

set_option maxHeartbeats 1000000 in
theorem awake6_any (w : World) : Calls Tryz.prog 4 #[] w fun e w' => e = .returned (.bool true) ∧ Below w.heap.size w w' := by
  have hF := fill_yes 3 w (by omega) (by omega)
  rw [fill3] at hF
  have HF := Lib.hid hF
  clear hF
  go_enter Tryz.func4, Tryz.ntmps4
  go_wp2_with fail
  refine (show Calls _ _ #[.int .i64 3] _ _ from HF.out).mono ?_
  rintro e w1 ⟨rfl, hb⟩
  go_wp2
  go_ret
  exact ⟨rfl, hb⟩

theorem great_spec {m : Msg} (h : greatM m = false) : m.body.size ≤ 2000 ∧ m.topic.size ≤ 100 ∧ m.tag.size ≤ 100 ∧ m.keys.length ≤ 10 ∧ ∀ s ∈ m.keys, s.size ≤ 100 := by
  unfold greatM bigK at h
  simp only [Bool.or_eq_false_iff, decide_eq_false_iff_not, List.any_eq_false, decide_eq_true_eq] at h
  obtain ⟨h1, h2, h3, h4, h5⟩ := h
  exact ⟨by omega, by omega, by omega, by omega, fun s hs => by have := h5 s hs; omega⟩

theorem putL_len {m : Msg} {p : List UInt8} (h : putL m = some p) : 3 ≤ p.length ∧ p.length ≤ 2100 := by
  have hr : rightM m = true := by
    unfold putL at h; split at h
    · assumption
    · cases h
  unfold putL at h
  rw [if_pos hr] at h
  split at h
  · rename_i hk
    split at h
    · rename_i h3
      cases h
      obtain ⟨_, hh⟩ := right_kinds hr
      have hf : fillM m = true := by
        rcases hh with ⟨k, _⟩ | ⟨k, _⟩ | ⟨k, _⟩ | ⟨k, _⟩ | ⟨_, hf⟩
        · omega
        · omega
        · omega
        · omega
        · exact hf
      have := (fill_spec hf).1
      rw [fillL_len h3]; omega
    · cases h
  · rename_i hk
    cases h
    have := insideL_len (right_in hr hk)
    simp only [List.length_cons, List.length_append, numL_len, sealL_len]; omega

/-- The bytes' own word on how many they are. -/
theorem putL_says {m : Msg} {p : List UInt8} (h : putL m = some p) : ∃ c r, p = c :: (numL 2 p.length ++ r) := by
  have hr : rightM m = true := by
    unfold putL at h; split at h
    · assumption
    · cases h
  unfold putL at h
  rw [if_pos hr] at h
  split at h
  · split at h
    · rename_i h3
      cases h
      exact ⟨90, noughtsL (m.body.size - 3), by rw [fillL_len h3]; rfl⟩
    · cases h
  · cases h
    refine ⟨165, sealL (insideL m), ?_⟩
    have e : (165 :: (numL 2 (7 + (insideL m).length) ++ sealL (insideL m)) : List UInt8).length = 7 + (insideL m).length := by
      simp only [List.length_cons, List.length_append, numL_len, sealL_len]; omega
    rw [e]

theorem getL_keys (l : List UInt8) : (getL l).2.2.keys.length ≤ 255 := by
  unfold getL getT
  repeat' split
  all_goals first
    | exact Nat.zero_le _
    | (show (openedL _).1.keys.length ≤ 255
       unfold openedL; dsimp only; rw [List.length_map]; exact (listR_small 3 16 _).1)

end Go.Proofs.YtnlpohcnlmdocaaGreat
