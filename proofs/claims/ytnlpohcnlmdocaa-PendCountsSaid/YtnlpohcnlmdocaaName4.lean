/- Keys. -/
import Derived.Test.YtnlpohcnlmdocaaName3
import Derived.LoopTactic
import Derived.LoopN
namespace Go.Proofs.Ytnlpohcnlmdocaa
open Go.RowKit Go.Shelf

set_option maxHeartbeats 1000000 in
theorem key_any (s : ByteArray) (w : World) (hs : s.size ≤ 9223372036854775807) : Calls Try.prog 108 #[.string s] w fun e w' => e = .returned (.bool (keyL (L s))) ∧ w = w' := by
  rcases Bool.eq_false_or_eq_true s.toList.isEmpty with hE | hE
  · have HP := Lib.hid (key_none hE)
    go_enter Try.func108, Try.ntmps108
    go_wp2
    go_ret
    exact ⟨ret_bool HP.out, rfl⟩
  by_cases h16 : s.size ≤ 16
  · have HL := Lib.hid (show 1 ≤ s.size by rw [L_empty, decide_eq_false_iff_not] at hE; omega)
    go_enter Try.func108, Try.ntmps108
    go_wp2
    go_loop [13] (fun i => ∃ k : Nat, k ≤ s.size ∧ i = .int .i64 k ∧ ((L s).take k).all keyU = true) (fun i => s.size - (intOf i).toNat)
    case atStart => exact ⟨0, Nat.zero_le _, rfl, rfl⟩
    case round =>
      obtain ⟨k, hk, rfl, hA⟩ := hrel
      have HA := Lib.hid hA
      clear hA
      by_cases hlt : k < s.size
      · rcases key_cases (s[k].toNat : Int) with ⟨h1, hS⟩ | ⟨h1, h2, hS⟩ | ⟨h1, h2, hS⟩
        all_goals
          have HS := Lib.hid hS
          clear hS
          go_wp2
          first
          | (go_round
             case rel => exact ⟨k + 1, by omega, by go_num, take_all hlt HA.out HS.out⟩
             case measure => simp [intOf]; omega)
          | (go_ret; exact ⟨ret_bool (key_bad k hlt HS.out), rfl⟩)
      · have HP := Lib.hid (key_good hlt HA.out)
        go_wp2
        go_ret
        exact ⟨ret_bool (by have := HL.out; rw [HP.out, Bool.eq_iff_iff]; simp; omega), rfl⟩
  · have HP := Lib.hid (key_long h16)
    go_enter Try.func108, Try.ntmps108
    go_wp2
    go_ret
    exact ⟨ret_bool HP.out, rfl⟩

set_option maxHeartbeats 1000000 in
theorem rKey_any (s : ByteArray) (w : World) (hs : s.size ≤ 9223372036854775807) : Calls Try.prog 77 #[.string s] w fun e w' => e = .returned (.bool (keyL (L s))) ∧ w = w' := by
  go_enter Try.func77, Try.ntmps77
  go_wp2
  go_loop [3] (fun i => ∃ k : Nat, k ≤ s.size ∧ i = .int .i64 k ∧ ((L s).take k).all keyU = true) (fun i => s.size - (intOf i).toNat)
  case atStart => exact ⟨0, Nat.zero_le _, rfl, rfl⟩
  case round =>
    obtain ⟨k, hk, rfl, hA⟩ := hrel
    have HA := Lib.hid hA
    clear hA
    by_cases hlt : k < s.size
    · rcases key_cases (s[k].toNat : Int) with ⟨h1, hS⟩ | ⟨h1, h2, hS⟩ | ⟨h1, h2, hS⟩
      all_goals
        have HS := Lib.hid hS
        clear hS
        go_wp2
        first
        | (go_round
           case rel => exact ⟨k + 1, by omega, by go_num, take_all hlt HA.out HS.out⟩
           case measure => simp [intOf]; omega)
        | (go_ret; exact ⟨ret_bool (key_bad k hlt HS.out), rfl⟩)
    · have HP := Lib.hid (key_good hlt HA.out)
      go_wp2
      all_goals
        go_ret
        exact ⟨ret_bool (by rw [HP.out, Bool.eq_iff_iff]; simp; omega), rfl⟩

end Go.Proofs.Ytnlpohcnlmdocaa
