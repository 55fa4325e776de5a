/- Plain names: the document's answer. -/
import Derived.Test.YtnlpohcnlmdocaaName
import Derived.LoopTactic
namespace Go.Proofs.Ytnlpohcnlmdocaa
open Go.RowKit Go.Shelf

set_option maxHeartbeats 1000000 in
theorem rPlain_any (s : ByteArray) (w : World) (hs : s.size ≤ 9223372036854775807) : Calls Try.prog 48 #[.string s] w fun e w' => e = .returned (.bool (plainL (L s))) ∧ w = w' := by
  go_enter Try.func48, Try.ntmps48
  go_wp2
  go_loop [3] (fun i => ∃ k : Nat, k ≤ s.size ∧ i = .int .i64 k ∧ ((L s).take k).all signU = true) (fun i => s.size - (intOf i).toNat)
  case atStart => exact ⟨0, Nat.zero_le _, rfl, rfl⟩
  case round =>
    obtain ⟨k, hk, rfl, hA⟩ := hrel
    have HA := Lib.hid hA
    clear hA
    by_cases hlt : k < s.size
    · rcases sign_cases (s[k].toNat : Int) with ⟨hS, h1, h2, h3, h4, h5⟩ | ⟨hS, h1, h2, h3, h4, h5⟩ | ⟨hS, h1, h2, h3, h4, h5⟩ | ⟨hS, h1, h2, h3, h4, h5⟩ | ⟨hS, h1, h2, h3, h4, h5⟩ | ⟨hS, h1, h2, h3, h4, h5⟩ | ⟨hS, h1, h2, h3, h4, h5⟩
      all_goals
        have HS := Lib.hid hS
        clear hS
        go_wp2
        first
        | (go_round
           case rel => exact ⟨k + 1, by omega, by go_num, take_all hlt HA.out HS.out⟩
           case measure => simp [intOf]; omega)
        | (go_ret; exact ⟨ret_bool (plain_bad k hlt HS.out), rfl⟩)
    · have HP := Lib.hid (plain_good hlt HA.out)
      go_wp2
      all_goals
        go_ret
        exact ⟨ret_bool (by rw [HP.out, Bool.eq_iff_iff]; simp; omega), rfl⟩

end Go.Proofs.Ytnlpohcnlmdocaa
