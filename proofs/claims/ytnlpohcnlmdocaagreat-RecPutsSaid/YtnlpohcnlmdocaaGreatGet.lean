/- Bytes as a number: octet.get. -/
import Derived.Test.YtnlpohcnlmdocaaGreatPut
import Derived.Test.YtnlpohcnlmdocaaGreatBits
namespace Go.Proofs.YtnlpohcnlmdocaaGreat
open Go.Shelf Go.RowKit
set_option linter.unusedVariables false
set_option linter.unusedSimpArgs false

theorem getN_next {s : ByteArray} {k : Nat} (h : k < s.size) (hn : s.size ≤ 7) : bits .or .i64 ((getN ((L s).take k) : Int) * 256) (wrap64 (s[k].toNat : Int)) = ((getN ((L s).take (k + 1)) : Nat) : Int) := by
  have h1 := getN_lt k ((L s).take k) (by rw [List.length_take, L_len]; omega)
  have h2 : 256 ^ k ≤ 256 ^ 6 := Nat.pow_le_pow_right (by omega) (by omega)
  rw [or_byte _ _ (by omega) s[k].toNat_lt, List.take_succ_eq_append_getElem (by rw [L_len]; exact h), getN_snoc]; rfl

set_option maxRecDepth 100000 in
set_option maxHeartbeats 4000000 in
theorem get_any (s : ByteArray) (w : World) (hn : s.size ≤ 7) :
    Calls Tryz.prog 57 #[.string s] w fun e w' => e = .returned (.int .i64 (getN (L s))) ∧ w = w' := by
  go_enter Tryz.func57, Tryz.ntmps57
  go_wp2
  go_loop [3, 7] (fun v i => ∃ k : Nat, k ≤ s.size ∧ i = .int .i64 k ∧ v = .int .i64 (getN ((L s).take k))) (fun _ i => s.size - (intOf i).toNat)
  case atStart => exact ⟨0, Nat.zero_le _, rfl, rfl⟩
  case round =>
    obtain ⟨k, hk, rfl, rfl⟩ := hrel
    by_cases hlt : k < s.size
    · have HN := Lib.hid (getN_next hlt hn)
      have hx1 : getN ((L s).take k) < 281474976710656 := by
        have := getN_lt k ((L s).take k) (by rw [List.length_take, L_len]; omega)
        have h2 : 256 ^ k ≤ 256 ^ 6 := Nat.pow_le_pow_right (by omega) (by omega)
        omega
      go_wp2
      go_round
      case rel => exact ⟨k + 1, by omega, by go_num, by rw [HN.out]⟩
      case measure => simp [intOf]; omega
    · have HN := Lib.hid (show (L s).take k = L s by rw [List.take_of_length_le (by rw [L_len]; omega)])
      go_wp2
      go_ret
      exact ⟨ret_int (by rw [HN.out]), rfl⟩

end Go.Proofs.YtnlpohcnlmdocaaGreat
