/- The check sum's functions: first, one, four, word. -/
import Derived.Test.YtnlpohcnlmdocaaGreatProg
import Derived.Test.YtnlpohcnlmdocaaGreatA
import Derived.Test.YtnlpohcnlmdocaaGreatEv
import Derived.Test.YtnlpohcnlmdocaaGreatBits
import Derived.Deep.QuietTactic
import Derived.BigQuiet
namespace Go.Proofs.YtnlpohcnlmdocaaGreat
open Go.Shelf Go.RowKit
set_option linter.unusedVariables false
set_option linter.unusedSimpArgs false

theorem and1_u32 (x : Nat) (h : x < 4294967296) : bits .and .u32 (x : Int) 1 = ((x % 2 : Nat) : Int) := by
  have := u32_and_nat x 1 h (by omega)
  rw [show ((1 : Nat) : Int) = 1 from rfl] at this
  rw [this, Nat.and_one_is_mod]
theorem stepC_even {x : Nat} (h : x % 2 = 0) : stepC x = x / 2 := by unfold stepC; rw [if_neg (by omega)]
theorem stepC_odd {x : Nat} (h : x % 2 = 1) : stepC x = x / 2 ^^^ 3988292384 := by unfold stepC; rw [if_pos h]

set_option maxRecDepth 100000 in
set_option maxHeartbeats 4000000 in
theorem first_any (b : Nat) (w : World) (hb : b < 256) :
    Calls Tryz.prog 16 #[.int .u32 b] w fun e w' => e = .returned (.int .u32 (tabC 0 b)) ∧ w = w' := by
  go_enter Tryz.func16, Tryz.ntmps16
  go_wp2
  go_loop [0, 4] (fun v i => ∃ k : Nat, k ≤ 8 ∧ i = .int .i64 k ∧ v = .int .u32 (stepsC k b)) (fun _ i => 8 - (intOf i).toNat)
  case atStart => exact ⟨0, Nat.zero_le _, rfl, rfl⟩
  case round =>
    obtain ⟨k, hk, rfl, rfl⟩ := hrel
    have hlt0 := stepsC_lt k (show b < 4294967296 by omega)
    have hs := Lib.hid (stepsC_succ k b)
    by_cases hlt : k < 8
    · obtain ⟨x, hx⟩ : ∃ x, stepsC k b = x := ⟨_, rfl⟩
      have ha := and1_u32 x (by omega)
      rcases Nat.mod_two_eq_zero_or_one x with h2 | h2
      · have hst := Lib.hid (stepC_even h2)
        rw [h2] at ha
        rw [hx] at hs hlt0 ⊢
        clear hx h2
        go_wp2
        go_round
        case rel => exact ⟨k + 1, by omega, by go_num, by rw [hs.out, hst.out]; rfl⟩
        case measure => simp [intOf]; omega
      · have hst := Lib.hid (stepC_odd h2)
        have hxo := u32_xor_nat (x / 2) 3988292384 (by omega) (by omega)
        rw [h2] at ha
        rw [hx] at hs hlt0 ⊢
        clear hx h2
        go_wp2
        go_round
        case rel => exact ⟨k + 1, by omega, by go_num, by rw [hs.out, hst.out, ← hxo]; rfl⟩
        case measure => simp [intOf]; omega
    · obtain rfl : k = 8 := by omega
      go_wp2
      go_ret
      exact ⟨rfl, rfl⟩

def TabAt (w : World) (b : Nat) : Prop := ∀ k j, k < 4 → j < 256 → w.cell? ⟨b, 256 * k + j, none⟩ = some (.int .u32 (tabC k j))

theorem u32_or_sum (a b n : Nat) (m : Nat) (hm : m = 2 ^ n) (ha : a < m) (hb : a + b * m < 4294967296) : bits .or .u32 (a : Int) ((b : Int) * (m : Int)) = ((a + b * m : Nat) : Int) := by
  subst hm
  rw [show (b : Int) * ((2 ^ n : Nat) : Int) = ((b * 2 ^ n : Nat) : Int) by push_cast; rfl, u32_or_nat _ _ (by omega) (by omega)]
  have := Nat.two_pow_add_eq_or_of_lt (i := n) (b := a) ha b
  rw [Nat.or_comm, Nat.mul_comm b, ← this, Nat.add_comm]
theorem four_in (a b c d : Nat) (ha : a < 256) (hb : b < 256) (hc : c < 256) (hd : d < 256) :
    bits .or .u32 (bits .or .u32 (bits .or .u32 (a : Int) ((b : Int) * 256)) ((c : Int) * 65536)) ((d : Int) * 16777216) = ((a + b * 256 + c * 65536 + d * 16777216 : Nat) : Int) := by
  have h1 := u32_or_sum a b 8 256 rfl (by omega) (by omega)
  have h2 := u32_or_sum (a + b * 256) c 16 65536 rfl (by omega) (by omega)
  have h3 := u32_or_sum (a + b * 256 + c * 65536) d 24 16777216 rfl (by omega) (by omega)
  rw [show ((256 : Nat) : Int) = 256 from rfl] at h1
  rw [show ((65536 : Nat) : Int) = 65536 from rfl] at h2
  rw [show ((16777216 : Nat) : Int) = 16777216 from rfl] at h3
  rw [h1, h2, h3]
theorem and255_u32 (x : Nat) (h : x < 4294967296) : bits .and .u32 (x : Int) 255 = ((x % 256 : Nat) : Int) := by
  have := u32_and_nat x 255 h (by omega)
  rw [show ((255 : Nat) : Int) = 255 from rfl] at this
  rw [this]
  have := Nat.and_two_pow_sub_one_eq_mod x 8
  rw [show 2 ^ 8 - 1 = 255 from rfl] at this
  rw [this]

theorem four_sum {t : ByteArray} {v : Nat} (h : 4 ≤ t.size) : stepsC 32 (v ^^^ (t[0].toNat + t[1].toNat * 256 + t[2].toNat * 65536 + t[3].toNat * 16777216)) = sumFrom v ((L t).take 4) := by
  rw [byteC_four _ _ _ _ _ t[0].toNat_lt t[1].toNat_lt t[2].toNat_lt t[3].toNat_lt]
  have hl : 4 ≤ (L t).length := by rw [L_len]; exact h
  have e : (L t).take 4 = [t[0], t[1], t[2], t[3]] := by
    apply List.ext_getElem
    · simp; omega
    · intro i h1 h2
      simp at h2
      rw [List.getElem_take, L_get t i (by omega)]
      match i, h2 with
      | 0, _ => rfl
      | 1, _ => rfl
      | 2, _ => rfl
      | 3, _ => rfl
  rw [e]; rfl

/-- What four bytes make of a sum. -/
def fourC (v : Nat) (s : ByteArray) : Nat := sumFrom v ((L s).take 4)

set_option maxRecDepth 100000 in
set_option maxHeartbeats 4000000 in
theorem four_any (b x : Nat) (s : ByteArray) (w : World) (hx : x < 4294967296) (hs : 4 ≤ s.size) (ht : TabAt w b) :
    Calls Tryz.prog 73 #[.pointer (some ⟨b, 0, none⟩), .int .u32 x, .string s] w fun e w' => e = .returned (.int .u32 (fourC x s)) ∧ Drn w w' := by
  have HF0 := Lib.hid (four_sum (v := x) hs)
  have hin := four_in s[0].toNat s[1].toNat s[2].toNat s[3].toNat s[0].toNat_lt s[1].toNat_lt s[2].toNat_lt s[3].toNat_lt
  have b0 := s[0].toNat_lt
  have b1 := s[1].toNat_lt
  have b2 := s[2].toNat_lt
  have b3 := s[3].toNat_lt
  have hlt : s[0].toNat + s[1].toNat * 256 + s[2].toNat * 65536 + s[3].toNat * 16777216 < 4294967296 := by omega
  generalize s[0].toNat + s[1].toNat * 256 + s[2].toNat * 65536 + s[3].toNat * 16777216 = z at *
  have hxo := u32_xor_nat x z hx hlt
  have hy : x ^^^ z < 4294967296 := Nat.xor_lt_two_pow (n := 32) hx hlt
  generalize x ^^^ z = y at *
  have HF := Lib.hid ((show fourC _ _ = stepsC 32 y from HF0.out.symm).trans (steps32 y))
  clear HF0
  have m0 := and255_u32 y hy
  have m1 := and255_u32 (y / 256) (by omega)
  have m2 := and255_u32 (y / 65536) (by omega)
  rw [show ((y / 256 : Nat) : Int) = (y : Int) / 256 by omega] at m1
  rw [show ((y / 65536 : Nat) : Int) = (y : Int) / 65536 by omega] at m2
  have m3 : (y : Int) / 16777216 = ((y / 16777216 : Nat) : Int) := by omega
  have l0 : y % 256 < 256 := by omega
  have l1 : y / 256 % 256 < 256 := by omega
  have l2 : y / 65536 % 256 < 256 := by omega
  have l3 : y / 16777216 < 256 := by omega
  generalize y % 256 = i0 at *
  generalize y / 256 % 256 = i1 at *
  generalize y / 65536 % 256 = i2 at *
  generalize y / 16777216 = i3 at *
  have c0 := ht 3 i0 (by omega) l0
  have c1 := ht 2 i1 (by omega) l1
  have c2 := ht 1 i2 (by omega) l2
  have c3 := ht 0 i3 (by omega) l3
  rw [show 256 * 3 = 768 from rfl] at c0
  rw [show 256 * 2 = 512 from rfl] at c1
  rw [show 256 * 1 = 256 from rfl] at c2
  rw [show 256 * 0 + i3 = i3 by omega] at c3
  clear ht
  have t0 : tabC 3 i0 < 4294967296 := tabC_lt l0
  have t1 : tabC 2 i1 < 4294967296 := tabC_lt l1
  have t2 : tabC 1 i2 < 4294967296 := tabC_lt l2
  have t3 : tabC 0 i3 < 4294967296 := tabC_lt l3
  generalize tabC 3 i0 = v0 at *
  generalize tabC 2 i1 = v1 at *
  generalize tabC 1 i2 = v2 at *
  generalize tabC 0 i3 = v3 at *
  have x1 := u32_xor_nat v0 v1 t0 t1
  have y1 : v0 ^^^ v1 < 4294967296 := Nat.xor_lt_two_pow (n := 32) t0 t1
  have x2 := u32_xor_nat (v0 ^^^ v1) v2 y1 t2
  have y2 : v0 ^^^ v1 ^^^ v2 < 4294967296 := Nat.xor_lt_two_pow (n := 32) y1 t2
  have x3 := u32_xor_nat (v0 ^^^ v1 ^^^ v2) v3 y2 t3
  have j0 : 0 < s.size := by omega
  have j1 : (1 : Int) < (s.size : Int) := by omega
  have j2 : (2 : Int) < (s.size : Int) := by omega
  have j3 : (3 : Int) < (s.size : Int) := by omega

  go_enter Tryz.func73, Tryz.ntmps73
  go_wp2
  go_quiet (fail)
  go_wp2
  go_quiet (fail)
  go_wp2
  go_ret
  exact ⟨ret_int (by rw [HF.out]), by repeat (first | exact Drn.refl _ | exact Drn.of _ _ | refine Drn.more ?_ _)⟩

set_option maxRecDepth 100000 in
set_option maxHeartbeats 4000000 in
theorem one_any (b x c : Nat) (w : World) (hx : x < 4294967296) (hc : c < 256) (ht : TabAt w b) :
    Calls Tryz.prog 74 #[.pointer (some ⟨b, 0, none⟩), .int .u32 x, .int .u8 c] w fun e w' => e = .returned (.int .u32 (byteC x c)) ∧ w = w' := by
  have hi : x % 256 ^^^ c < 256 := Nat.xor_lt_two_pow (n := 8) (by omega) hc
  have hxo := u8_xor_nat (x % 256) c (by omega) hc
  rw [show ((x % 256 : Nat) : Int) = (x : Int) % 256 by omega] at hxo
  have hcell := ht 0 _ (by omega) hi
  have ht1 : tabC 0 (x % 256 ^^^ c) < 4294967296 := tabC_lt hi
  have hfin := u32_xor_nat (tabC 0 (x % 256 ^^^ c)) (x / 256) ht1 (by omega)
  rw [byteC_tab hc, show ((x / 256 : Nat) : Int) = (x : Int) / 256 by omega] at hfin
  rw [Nat.mul_zero, Nat.zero_add] at hcell
  generalize x % 256 ^^^ c = i at *
  clear ht
  go_enter Tryz.func74, Tryz.ntmps74
  go_wp2
  go_ret
  exact ⟨rfl, rfl⟩

end Go.Proofs.YtnlpohcnlmdocaaGreat
