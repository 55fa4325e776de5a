/- The check sum in plain numbers: bit by bit, and by four tables; nothing of the program stands here. -/
namespace Go.Proofs.YtnlpohcnlmdocaaGreat
set_option linter.unusedSimpArgs false
set_option linter.unusedVariables false

/-- One bit's turn. -/
def stepC (x : Nat) : Nat := if x % 2 = 1 then (x / 2) ^^^ 3988292384 else x / 2
def stepsC : Nat → Nat → Nat
  | 0, x => x
  | n + 1, x => stepsC n (stepC x)
/-- The tables. -/
def tabC (k b : Nat) : Nat := stepsC (8 * (k + 1)) b
/-- A byte's turn, and the sum of bytes. -/
def byteC (x b : Nat) : Nat := stepsC 8 (x ^^^ b)
def sumFrom (x : Nat) (l : List UInt8) : Nat := l.foldl (fun x b => byteC x b.toNat) x
def sumC (l : List UInt8) : Nat := 4294967295 - sumFrom 4294967295 l

theorem xor_mod2 (a b : Nat) : (a ^^^ b) % 2 = (a % 2 + b % 2) % 2 := by
  have h := Nat.xor_mod_two_pow (a := a) (b := b) (n := 1)
  rw [show (2 : Nat) ^ 1 = 2 from rfl] at h
  rw [h]
  rcases Nat.mod_two_eq_zero_or_one a with ha | ha <;> rcases Nat.mod_two_eq_zero_or_one b with hb | hb <;> rw [ha, hb] <;> rfl
theorem xor_div2 (a b : Nat) : (a ^^^ b) / 2 = a / 2 ^^^ b / 2 := Nat.xor_div_two
theorem stepC_xor (a b : Nat) : stepC (a ^^^ b) = stepC a ^^^ stepC b := by
  unfold stepC
  rw [xor_mod2, xor_div2]
  rcases Nat.mod_two_eq_zero_or_one a with ha | ha <;> rcases Nat.mod_two_eq_zero_or_one b with hb | hb <;> simp only [ha, hb]
  · rfl
  · simp only [Nat.zero_add, Nat.one_mod, if_true, reduceIte, Nat.zero_ne_one, if_false]; rw [Nat.xor_assoc]
  · simp only [Nat.add_zero, Nat.one_mod, if_true, reduceIte, Nat.zero_ne_one, if_false]; rw [Nat.xor_assoc, Nat.xor_assoc, Nat.xor_comm 3988292384]
  · have h : (1 + 1) % 2 = 0 := rfl
    simp only [h, if_true, reduceIte, Nat.zero_ne_one, if_false]
    rw [Nat.xor_assoc, ← Nat.xor_assoc 3988292384, Nat.xor_comm 3988292384, Nat.xor_assoc (b / 2), Nat.xor_self, Nat.xor_zero]
theorem stepsC_xor : ∀ n a b, stepsC n (a ^^^ b) = stepsC n a ^^^ stepsC n b
  | 0, _, _ => rfl
  | n + 1, a, b => by rw [stepsC, stepC_xor, stepsC_xor n]; rfl
theorem stepsC_add : ∀ m n x, stepsC (m + n) x = stepsC n (stepsC m x)
  | 0, n, x => by rw [Nat.zero_add]; rfl
  | m + 1, n, x => by rw [show m + 1 + n = (m + n) + 1 by omega, stepsC, stepsC_add m n]; rfl
theorem stepsC_succ (n x : Nat) : stepsC (n + 1) x = stepC (stepsC n x) := stepsC_add n 1 x
theorem stepsC_shl : ∀ n y, stepsC n (y * 2 ^ n) = y
  | 0, y => by simp [stepsC]
  | n + 1, y => by
    rw [stepsC]
    have h : stepC (y * 2 ^ (n + 1)) = y * 2 ^ n := by
      unfold stepC
      rw [Nat.pow_succ, ← Nat.mul_assoc, if_neg (by omega), Nat.mul_div_cancel _ (by omega)]
    rw [h, stepsC_shl n]
theorem stepC_lt {x : Nat} (h : x < 4294967296) : stepC x < 4294967296 := by
  unfold stepC
  split
  · exact Nat.xor_lt_two_pow (n := 32) (by omega) (by decide)
  · omega
theorem stepsC_lt : ∀ n {x : Nat}, x < 4294967296 → stepsC n x < 4294967296
  | 0, _, h => h
  | n + 1, _, h => stepsC_lt n (stepC_lt h)
theorem tabC_lt {k b : Nat} (h : b < 256) : tabC k b < 4294967296 := stepsC_lt _ (by omega)
theorem byteC_lt {x b : Nat} (h : x < 4294967296) (hb : b < 256) : byteC x b < 4294967296 := stepsC_lt _ (Nat.xor_lt_two_pow (n := 32) h (by omega))
theorem sumFrom_lt : ∀ {l : List UInt8} {x : Nat}, x < 4294967296 → sumFrom x l < 4294967296
  | [], _, h => h
  | b :: l, _, h => sumFrom_lt (l := l) (byteC_lt h b.toNat_lt)
theorem sumC_lt (l : List UInt8) : sumC l < 4294967296 := by
  have := sumFrom_lt (l := l) (x := 4294967295) (by omega)
  unfold sumC; omega

/-- A number apart at a power of two. -/
theorem apart (x n : Nat) : x = x % 2 ^ n ^^^ (x / 2 ^ n) * 2 ^ n := by
  apply Nat.eq_of_testBit_eq
  intro i
  rw [Nat.testBit_xor, Nat.testBit_mod_two_pow, Nat.testBit_mul_two_pow, Nat.testBit_div_two_pow]
  by_cases h : i < n
  · simp [h, Nat.not_le.mpr h]
  · simp [h, Nat.le_of_not_lt h, Nat.sub_add_cancel (Nat.le_of_not_lt h)]
theorem steps8 (x : Nat) : stepsC 8 x = tabC 0 (x % 256) ^^^ x / 256 := by
  conv => lhs; rw [apart x 8, stepsC_xor, stepsC_shl]
  rfl
/-- The tables' rows, each from the one ahead. -/
theorem tabC_next (k b : Nat) : tabC (k + 1) b = tabC 0 (tabC k b % 256) ^^^ tabC k b / 256 := by
  rw [← steps8, tabC, tabC, show 8 * (k + 1 + 1) = 8 * (k + 1) + 8 by omega, stepsC_add]
theorem xor_small {x b : Nat} (hb : b < 256) : (x ^^^ b) / 256 = x / 256 := by
  have h := Nat.shiftRight_xor_distrib (a := x) (b := b) (i := 8)
  rw [Nat.shiftRight_eq_div_pow, Nat.shiftRight_eq_div_pow, Nat.shiftRight_eq_div_pow] at h
  rw [show (256 : Nat) = 2 ^ 8 from rfl, h, show b / 2 ^ 8 = 0 by omega, Nat.xor_zero]
theorem xor_mod {x b : Nat} (hb : b < 256) : (x ^^^ b) % 256 = x % 256 ^^^ b := by
  have h := Nat.xor_mod_two_pow (a := x) (b := b) (n := 8)
  rw [show (256 : Nat) = 2 ^ 8 from rfl, h, show b % 2 ^ 8 = b by omega]
/-- A byte by a table. -/
theorem byteC_tab {x b : Nat} (hb : b < 256) : tabC 0 (x % 256 ^^^ b) ^^^ x / 256 = byteC x b := by
  unfold byteC; rw [steps8, xor_mod hb, xor_small hb]
/-- Four bytes as a number, the least first. -/
theorem four_or (a b c d : Nat) (ha : a < 256) (hb : b < 256) (hc : c < 256) (hd : d < 256) : a ||| b * 256 ||| c * 65536 ||| d * 16777216 = a + b * 256 + c * 65536 + d * 16777216 := by
  have h1 : a ||| b * 256 = a + b * 256 := by
    have := Nat.two_pow_add_eq_or_of_lt (i := 8) (b := a) (by omega) b
    rw [Nat.or_comm, show b * 256 = 2 ^ 8 * b by omega, ← this]; omega
  have h2 : (a + b * 256) ||| c * 65536 = a + b * 256 + c * 65536 := by
    have := Nat.two_pow_add_eq_or_of_lt (i := 16) (b := a + b * 256) (by omega) c
    rw [Nat.or_comm, show c * 65536 = 2 ^ 16 * c by omega, ← this]; omega
  have h3 : (a + b * 256 + c * 65536) ||| d * 16777216 = a + b * 256 + c * 65536 + d * 16777216 := by
    have := Nat.two_pow_add_eq_or_of_lt (i := 24) (b := a + b * 256 + c * 65536) (by omega) d
    rw [Nat.or_comm, show d * 16777216 = 2 ^ 24 * d by omega, ← this]; omega
  rw [h1, h2, h3]
theorem steps_small (k n : Nat) (b : Nat) : stepsC (8 * (k + 1) + n) (b * 2 ^ n) = tabC k b := by
  rw [Nat.add_comm, stepsC_add, stepsC_shl]; rfl
theorem four_apart (y : Nat) : y = ((y % 256 ^^^ (y / 256 % 256) * 2 ^ 8) ^^^ (y / 65536 % 256) * 2 ^ 16) ^^^ (y / 16777216) * 2 ^ 24 := by
  have h1 := apart y 24
  have h2 := apart (y % 2 ^ 24) 16
  have h3 := apart (y % 2 ^ 24 % 2 ^ 16) 8
  rw [h2, h3] at h1
  conv => lhs; rw [h1]
  have e1 : y % 2 ^ 24 % 2 ^ 16 % 2 ^ 8 = y % 256 := by omega
  have e2 : y % 2 ^ 24 % 2 ^ 16 / 2 ^ 8 = y / 256 % 256 := by omega
  have e3 : y % 2 ^ 24 / 2 ^ 16 = y / 65536 % 256 := by omega
  have e4 : y / 2 ^ 24 = y / 16777216 := by omega
  rw [e1, e2, e3, e4]
theorem steps32 (y : Nat) : stepsC 32 y = tabC 3 (y % 256) ^^^ tabC 2 (y / 256 % 256) ^^^ tabC 1 (y / 65536 % 256) ^^^ tabC 0 (y / 16777216) := by
  conv => lhs; rw [four_apart y]
  rw [stepsC_xor, stepsC_xor, stepsC_xor, show stepsC 32 (y / 256 % 256 * 2 ^ 8) = tabC 2 (y / 256 % 256) from steps_small 2 8 _, show stepsC 32 (y / 65536 % 256 * 2 ^ 16) = tabC 1 (y / 65536 % 256) from steps_small 1 16 _,
    show stepsC 32 (y / 16777216 * 2 ^ 24) = tabC 0 (y / 16777216) from steps_small 0 24 _]
  rfl
theorem add_xor (a b n : Nat) (h : a < 2 ^ n) : a + b * 2 ^ n = a ^^^ b * 2 ^ n := by
  have := apart (a + b * 2 ^ n) n
  rw [Nat.add_mul_mod_self_right, Nat.mod_eq_of_lt h, Nat.add_mul_div_right _ _ (Nat.two_pow_pos n), Nat.div_eq_of_lt h, Nat.zero_add] at this
  exact this
/-- Four bytes at once are four bytes one by one. -/
theorem byteC_four (x a b c d : Nat) (ha : a < 256) (hb : b < 256) (hc : c < 256) (hd : d < 256) :
    stepsC 32 (x ^^^ (a + b * 256 + c * 65536 + d * 16777216)) = byteC (byteC (byteC (byteC x a) b) c) d := by
  unfold byteC
  have e : a + b * 256 + c * 65536 + d * 16777216 = ((a ^^^ b * 2 ^ 8) ^^^ c * 2 ^ 16) ^^^ d * 2 ^ 24 := by
    rw [← add_xor a b 8 (by omega), ← add_xor _ c 16 (by omega), ← add_xor _ d 24 (by omega)]
  have s1 : ∀ y, stepsC 32 y = stepsC 8 (stepsC 8 (stepsC 8 (stepsC 8 y))) := fun y => by
    rw [show 32 = 8 + (8 + (8 + 8)) from rfl, stepsC_add, stepsC_add, stepsC_add]
  have t1 : ∀ y z, stepsC 8 (y ^^^ z * 2 ^ 8) = stepsC 8 y ^^^ z := fun y z => by rw [stepsC_xor, stepsC_shl]
  rw [e, s1, ← Nat.xor_assoc, ← Nat.xor_assoc, ← Nat.xor_assoc]
  rw [show d * 2 ^ 24 = (d * 2 ^ 16) * 2 ^ 8 by omega, t1, show c * 2 ^ 16 = (c * 2 ^ 8) * 2 ^ 8 by omega, t1, t1]
  rw [show d * 2 ^ 16 = (d * 2 ^ 8) * 2 ^ 8 by omega, t1, t1, t1]
theorem sumFrom_app (x : Nat) (l m : List UInt8) : sumFrom x (l ++ m) = sumFrom (sumFrom x l) m := List.foldl_append
theorem sumFrom_snoc (x : Nat) (l : List UInt8) (b : UInt8) : sumFrom x (l ++ [b]) = byteC (sumFrom x l) b.toNat := by rw [sumFrom_app]; rfl
/-- The complement: all bits turned. -/
theorem not32 {x : Nat} (h : x < 4294967296) : 4294967295 ^^^ x = 4294967295 - x := by
  apply Nat.eq_of_testBit_eq
  intro i
  have e : 4294967295 - x = 2 ^ 32 - (x + 1) := by omega
  rw [e, Nat.testBit_two_pow_sub_succ (by omega), Nat.testBit_xor, show (4294967295 : Nat) = 2 ^ 32 - 1 from rfl, Nat.testBit_two_pow_sub_one]
  by_cases hi : i < 32
  · simp [hi]
  · have : x.testBit i = false := Nat.testBit_lt_two_pow (Nat.lt_of_lt_of_le (show x < 2 ^ 32 by omega) (Nat.pow_le_pow_right (by omega) (by omega)))
    simp [hi, this]

end Go.Proofs.YtnlpohcnlmdocaaGreat
