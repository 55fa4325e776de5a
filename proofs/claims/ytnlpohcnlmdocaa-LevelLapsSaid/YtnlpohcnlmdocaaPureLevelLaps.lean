/- The statement LevelLaps: two times have one slot just if they lie whole laps apart, a lap later the hand goes by once more, and what is far is not due within a lap. It holds for every input of the three kinds of number. -/
import Derived.Test.YtnlpohcnlmdocaaPLevelLapsx1
namespace Go.Proofs.Ytnlpohcnlmdocaa.Pure
open Go.RowKit Go.Proofs.Ytnlpohcnlmdocaa.PLevelLaps Go.Proofs.YtnlpohcnlmdocaaW.PrintWords Go.Proofs.YtnlpohcnlmdocaaW.PrintLast

theorem w64 (x : Int) (h : -9223372036854775808 ≤ x) (h' : x ≤ 9223372036854775807) : wrap64 x = x := by
  unfold wrap64; omega

theorem wu64 (x : Int) (h : 0 ≤ x) (h' : x ≤ 9223372036854775807) : IntKind.u64.wrap x = x := by
  have : IntKind.u64.wrap x = x % 18446744073709551616 := by
    simp [IntKind.wrap, IntKind.bits, IntKind.signed]
  rw [this]; omega

theorem awake_true : reveillelaw12_awake.f = some true := by decide +kernel

theorem slot_is (x : Int) (h : 0 ≤ x) : level_Slot.f x = some (x % 16) := by
  unfold level_Slot.f mx; rw [if_neg (by omega)]

theorem laps_is (a b : Int) (hb : 0 ≤ b) (hab : b ≤ a) (ha : a ≤ 9223372036854775807) : level_Laps.f a b = some ((a - b) / 16) := by
  unfold level_Laps.f
  by_cases h : a ≤ b
  · rw [if_pos h]; congr 1; omega
  · rw [if_neg h, wu64 a (by omega) (by omega), wu64 b (by omega) (by omega), wu64 (a - b) (by omega) (by omega), Int.tdiv_eq_ediv_of_nonneg (by omega), wu64 _ (by omega) (by omega), w64 _ (by omega) (by omega)]

theorem far_is (a b : Int) (hb : 0 ≤ b) (hab : b ≤ a) (ha : a ≤ 9223372036854775807) : level_Far.f a b = some (decide ((a - b) / 16 > 0)) := by
  unfold level_Far.f; rw [laps_is a b hb hab ha]; rfl

theorem tmod16 (x y : Int) : (x % 16 == y % 16) = (Int.tmod (x - y) 16 == 0) := by
  have e : Int.tmod (x - y) 16 = 0 ↔ x % 16 = y % 16 := by
    rw [← Int.dvd_iff_tmod_eq_zero]; omega
  rw [Bool.eq_iff_iff]; simp [e]

theorem LevelLaps : reveillelaw12_LevelLaps.Pure := by
  intro n a b h0 h1 h2
  simp [Lit.wf, IntKind.min, IntKind.max, IntKind.bits, IntKind.signed] at h0 h1 h2
  have en : wrap64 n = n := w64 n (by omega) (by omega)
  have ea : wrap64 a = a := w64 a (by omega) (by omega)
  have eb : wrap64 b = b := w64 b (by omega) (by omega)
  have ex : wrap64 (n + a) = n + a := w64 _ (by omega) (by omega)
  have ey : wrap64 (n + b) = n + b := w64 _ (by omega) (by omega)
  have exy : wrap64 (n + a - (n + b)) = n + a - (n + b) := w64 _ (by omega) (by omega)
  have ex16 : wrap64 (n + a + 16) = n + a + 16 := w64 _ (by omega) (by omega)
  have en16 : wrap64 (n + 16) = n + 16 := w64 _ (by omega) (by omega)
  have j : ∀ k : Nat, reveillelaw12_LevelLaps.j0 (k + 1) n (n + a) (n + b) false = some true := by
    intro k
    simp only [reveillelaw12_LevelLaps.j0]
    rw [if_neg (by decide), far_is _ _ (by omega) (by omega) (by omega), laps_is (n + a) n (by omega) (by omega) (by omega), laps_is (n + b) n (by omega) (by omega) (by omega)]
    simp only [Option.bind_some, en16]
    rw [if_pos (by simp)]
    by_cases c : n + a > n + b
    · by_cases d : (n + a - n) / 16 > 0
      · rw [if_pos (by simpa using d), if_pos (by omega), if_pos c]
      · rw [if_neg (by simpa using d), if_pos c]
    · have hle : (n + a - n) / 16 ≤ (n + b - n) / 16 := by omega
      by_cases d : (n + a - n) / 16 > 0
      · rw [if_pos (by simpa using d), if_pos (by omega), if_neg c, decide_eq_true hle]
      · rw [if_neg (by simpa using d), if_neg c, decide_eq_true hle]
  refine ⟨1, ?_⟩
  unfold reveillelaw12_LevelLaps.f
  rw [awake_true]
  simp only [Option.bind_some, if_true, en, ea, eb, ex, ey, exy, ex16]
  rw [slot_is _ (by omega), slot_is _ (by omega)]
  simp only [Option.bind_some]
  rw [tmod16, if_neg (by simp)]
  by_cases c : n + a > n
  · rw [if_pos c, laps_is (n + a + 16) n (by omega) (by omega) (by omega), laps_is (n + a) n (by omega) (by omega) (by omega)]
    simp only [Option.bind_some]
    rw [w64 _ (by omega) (by omega), show ((n + a + 16 - n) / 16 != (n + a - n) / 16 + 1) = false by simp; omega]
    exact j 0
  · rw [if_neg c]; exact j 0

end Go.Proofs.Ytnlpohcnlmdocaa.Pure
