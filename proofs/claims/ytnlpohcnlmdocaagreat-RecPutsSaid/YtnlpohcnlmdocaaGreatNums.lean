/- Numbers that may be a record's: the closures and loops that ask for them. -/
import Derived.Test.YtnlpohcnlmdocaaGreatSames
namespace Go.Proofs.YtnlpohcnlmdocaaGreat
open Go.RowKit Go.Shelf

def okN (n : Int) : Bool := decide (0 ≤ n) && decide (n ≤ 1099511627776)
theorem okN_cases (n : Int) : (decide (n < 0) = true ∧ okN n = false) ∨ (decide (n < 0) = false ∧ decide (1099511627776 < n) = true ∧ okN n = false) ∨ (decide (n < 0) = false ∧ decide (1099511627776 < n) = false ∧ okN n = true) := by
  unfold okN; simp; omega

/-- A list of numbers in memory. -/
def Ints (w : World) (A : Option Addr) (l : List Int) : Prop :=
  l ≠ [] → ∃ b o, A = some ⟨b, o, none⟩ ∧ ∀ j (h : j < l.length), w.cell? ⟨b, o + j, none⟩ = some (.int .i64 l[j])
theorem Ints.below {w w' : World} {A : Option Addr} {l : List Int} (h : Ints w A l) (hb : Below w.heap.size w w') : Ints w' A l := fun hl => by
  obtain ⟨b, o, e, hc⟩ := h hl
  exact ⟨b, o, e, fun j hj => (hb.cell (p := ⟨b, o + j, none⟩) (cell_lt (hc j hj))).trans (hc j hj)⟩

set_option maxHeartbeats 1000000 in
theorem numsc_any (n : Int) (w : World) : Calls Tryz.prog 42 #[.int .i64 n] w fun e w' => e = .returned (.bool (!okN n)) ∧ w = w' := by
  rcases okN_cases n with ⟨h1, h3⟩ | ⟨h1, h2, h3⟩ | ⟨h1, h2, h3⟩
  all_goals
    go_enter Tryz.func42, Tryz.ntmps42
    go_wp2
    go_ret
    exact ⟨ret_bool (by rw [h3]; rfl), rfl⟩

theorem alli_take {l : List Int} {p : Int → Bool} {k : Nat} (h : k < l.length) (hA : (l.take k).all p = true) (hk : p l[k] = true) : (l.take (k + 1)).all p = true := by
  rw [List.take_succ_eq_append_getElem h, List.all_append, hA]; simp [hk]
theorem alli_bad {l : List Int} {p : Int → Bool} {k : Nat} (h : k < l.length) (hk : p l[k] = false) : false = l.all p := by
  symm; rw [List.all_eq_false]; exact ⟨l[k], List.getElem_mem h, by simp [hk]⟩
theorem alli_good {l : List Int} {p : Int → Bool} {k : Nat} (h : ¬ k < l.length) (hA : (l.take k).all p = true) : true = l.all p := by
  rw [List.take_of_length_le (by omega)] at hA; exact hA.symm
def allI (p : Int → Bool) (l : List Int) : Bool := l.all p
/-- What the search hands back: below 0 just where all are so. -/
def SomeIdx (P : Int → Prop) (e : Ending) : Prop := ∃ n : Int, P n ∧ e = .returned (.int .i64 n)

set_option maxHeartbeats 1000000 in
theorem numsIdx_any (A : Option Addr) (c : Nat) (l : List Int) (w : World) (hl : Ints w A l) (hn : l.length ≤ 9223372036854775806) :
    Calls Tryz.prog 63 #[.slice A l.length c, .func (.func 42) #[] #[]] w fun e w' => SomeIdx (fun n => decide (0 ≤ n) = !allI okN l) e ∧ w = w' := by
  have HL := Lib.hid hl
  clear hl
  go_enter Tryz.func63, Tryz.ntmps63
  go_wp2
  go_loop [8] (fun i => ∃ k : Nat, k ≤ l.length ∧ i = .int .i64 k ∧ Hid ((l.take k).all okN = true)) (fun i => l.length - (intOf i).toNat)
  case atStart => exact ⟨0, Nat.zero_le _, rfl, rfl⟩
  case round =>
    obtain ⟨k, hk, rfl, HA⟩ := hrel
    by_cases hlt : k < l.length
    · obtain ⟨b, o, rfl, hc⟩ := HL.out (by intro e; subst e; simp at hlt)
      have hck := hc k hlt
      obtain ⟨x, hx⟩ : ∃ x, l[k] = x := ⟨_, rfl⟩
      rw [hx] at hck
      have HX := Lib.hid hx
      clear hc hx
      rcases Bool.eq_false_or_eq_true (okN x) with hK | hK
      · go_wp2_with (go_at_call 42; refine (numsc_any _ _).mono ?_; rintro e w' ⟨rfl, rfl⟩)
        go_round
        case rel => exact ⟨k + 1, by omega, by go_num, alli_take hlt HA.out (by rw [HX.out]; exact hK)⟩
        case measure => simp [intOf]; omega
      · have HK := Lib.hid (alli_bad (p := okN) hlt (by rw [HX.out]; exact hK))
        go_wp2_with (go_at_call 42; refine (numsc_any _ _).mono ?_; rintro e w' ⟨rfl, rfl⟩)
        go_ret
        exact ⟨⟨k, by show _ = !(l.all okN); rw [← HK.out]; simp, rfl⟩, rfl⟩
    · have HK := Lib.hid (alli_good hlt HA.out)
      go_wp2
      go_ret
      exact ⟨⟨-1, by show _ = !(l.all okN); rw [← HK.out]; simp, rfl⟩, rfl⟩

set_option maxHeartbeats 1000000 in
theorem numsHas_any (A : Option Addr) (c : Nat) (l : List Int) (w : World) (hl : Ints w A l) (hn : l.length ≤ 9223372036854775806) :
    Calls Tryz.prog 41 #[.slice A l.length c, .func (.func 42) #[] #[]] w fun e w' => e = .returned (.bool (!allI okN l)) ∧ w = w' := by
  have hC := numsIdx_any A c l w hl hn
  go_enter Tryz.func41, Tryz.ntmps41
  go_wp2_with (go_at_call 63; refine hC.mono ?_; rintro e w' ⟨⟨n, hx, rfl⟩, rfl⟩; have HX := Lib.hid hx; clear hx)
  go_ret
  exact ⟨ret_bool HX.out, rfl⟩

set_option maxHeartbeats 1000000 in
theorem nums_any (A : Option Addr) (c : Nat) (l : List Int) (w : World) (hl : Ints w A l) (hn : l.length ≤ 9223372036854775806) :
    Calls Tryz.prog 19 #[.slice A l.length c] w fun e w' => e = .returned (.bool (allI okN l)) ∧ w = w' := by
  have hC := numsHas_any A c l w hl hn
  go_enter Tryz.func19, Tryz.ntmps19
  go_wp2_with (go_at_call 41; refine hC.mono ?_; rintro e w' ⟨rfl, rfl⟩)
  go_ret
  exact ⟨rfl, rfl⟩

set_option maxHeartbeats 1000000 in
theorem rNum_any (n : Int) (w : World) : Calls Tryz.prog 17 #[.int .i64 n] w fun e w' => e = .returned (.bool (okN n)) ∧ w = w' := by
  go_enter Tryz.func17, Tryz.ntmps17
  go_wp2
  all_goals
    go_ret
    exact ⟨ret_bool (by unfold okN; rw [Bool.eq_iff_iff]; simp; omega), rfl⟩

/-- Noughts. -/
def noughtsL (n : Nat) : List UInt8 := List.replicate n 0
theorem repeatL_nought : ∀ n : Nat, Lib.repeatL [0] n = noughtsL n
  | 0 => rfl
  | n + 1 => by unfold Lib.repeatL; rw [repeatL_nought n]; rfl

set_option maxHeartbeats 1000000 in
theorem noughts_any (n : Nat) (w : World) (hn : n ≤ 140737488355328) : Calls Tryz.prog 21 #[.int .i64 n] w fun e w' => e = .returned (.string (B (noughtsL n))) ∧ Below w.heap.size w w' := by
  have hC := Tryz.strings_Repeat ⟨#[0]⟩ n w (by omega) (by show 1 * n ≤ _; omega)
  have e : (⟨(Lib.repeatL (⟨#[0]⟩ : ByteArray).data.toList n).toArray⟩ : ByteArray) = B (noughtsL n) := by rw [← repeatL_nought]; rfl
  rw [e] at hC
  clear e
  go_enter Tryz.func21, Tryz.ntmps21
  go_wp2_with (go_at_call 48; refine hC.mono ?_; rintro e w' ⟨rfl, hb⟩)
  go_ret
  exact ⟨rfl, hb⟩

end Go.Proofs.YtnlpohcnlmdocaaGreat
