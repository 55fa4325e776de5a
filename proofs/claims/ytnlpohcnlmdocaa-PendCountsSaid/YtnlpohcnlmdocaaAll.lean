/- Lists of texts in memory, and name.All with name.Key. -/
import Derived.Test.YtnlpohcnlmdocaaName5
import Derived.Lib.Hide
namespace Go.Proofs.Ytnlpohcnlmdocaa
open Go.RowKit Go.Shelf

/-- A list of texts in memory: what a slice's address leads to. -/
def Strs (w : World) (A : Option Addr) (l : List ByteArray) : Prop :=
  l ≠ [] → ∃ b o, A = some ⟨b, o, none⟩ ∧ ∀ j (h : j < l.length), w.cell? ⟨b, o + j, none⟩ = some (.string l[j])

theorem cell_lt {w : World} {b o : Nat} {i : _} {v : Value} (h : w.cell? ⟨b, o, i⟩ = some v) : b < w.heap.size := by
  rcases Nat.lt_or_ge b w.heap.size with h1 | h1
  · exact h1
  · exfalso; unfold World.cell? at h; simp [Array.getElem?_eq_none h1] at h

theorem Strs.below {w w' : World} {A : Option Addr} {l : List ByteArray} (h : Strs w A l) (hb : Below w.heap.size w w') : Strs w' A l := fun hl => by
  obtain ⟨b, o, e, hc⟩ := h hl
  exact ⟨b, o, e, fun j hj => (hb.cell (p := ⟨b, o + j, none⟩) (cell_lt (hc j hj))).trans (hc j hj)⟩

theorem all_take {l : List ByteArray} {p : ByteArray → Bool} {k : Nat} (h : k < l.length) (hA : (l.take k).all p = true) (hk : p l[k] = true) : (l.take (k + 1)).all p = true := by
  rw [List.take_succ_eq_append_getElem h, List.all_append, hA]; simp [hk]
theorem all_bad {l : List ByteArray} {p : ByteArray → Bool} {k : Nat} (h : k < l.length) (hk : p l[k] = false) : false = l.all p := by
  symm; rw [List.all_eq_false]; exact ⟨l[k], List.getElem_mem h, by simp [hk]⟩
theorem all_good {l : List ByteArray} {p : ByteArray → Bool} {k : Nat} (h : ¬ k < l.length) (hA : (l.take k).all p = true) : true = l.all p := by
  rw [List.take_of_length_le (by omega)] at hA; exact hA.symm

/-- All of a list are so. -/
def allB (p : ByteArray → Bool) (l : List ByteArray) : Bool := l.all p

set_option maxHeartbeats 1000000 in
theorem allKey_any (A : Option Addr) (c : Nat) (l : List ByteArray) (w : World) (hl : Strs w A l) (hn : l.length ≤ 9223372036854775806) (hs : ∀ s ∈ l, s.size ≤ 9223372036854775807) :
    Calls Try.prog 107 #[.func (.func 108) #[] #[], .slice A l.length c] w fun e w' => e = .returned (.bool (allB (fun s => keyL (L s)) l)) ∧ w = w' := by
  have HS := Lib.hid hs
  have HL := Lib.hid hl
  clear hs hl
  have hq : ∀ w, (binOp .eql 49 (.func (.func 108) #[] #[]) .nilFunc).run Try.prog w = .ok (.bool false) w := fun _ => by kernel_rfl
  go_enter Try.func107, Try.ntmps107
  go_wp2
  go_loop [9] (fun i => ∃ k : Nat, k ≤ l.length ∧ i = .int .i64 k ∧ ((l.take k).all fun s => keyL (L s)) = true) (fun i => l.length - (intOf i).toNat)
  case atStart => exact ⟨0, Nat.zero_le _, rfl, rfl⟩
  case round =>
    obtain ⟨k, hk, rfl, hA⟩ := hrel
    have HA := Lib.hid hA
    clear hA
    by_cases hlt : k < l.length
    · obtain ⟨b, o, rfl, hc⟩ := HL.out (by intro e; subst e; simp at hlt)
      have hsk := HS.out l[k] (List.getElem_mem hlt)
      have hck := hc k hlt
      obtain ⟨x, hx⟩ : ∃ x, l[k] = x := ⟨_, rfl⟩
      rw [hx] at hck hsk
      have HX := Lib.hid hx
      clear hc hx
      rcases Bool.eq_false_or_eq_true (keyL (L x)) with hK | hK
      · go_wp2_with (go_at_call 108; refine (key_any _ _ hsk).mono ?_; rintro e w' ⟨rfl, rfl⟩)
        go_round
        case rel => exact ⟨k + 1, by omega, by go_num, all_take hlt HA.out (by rw [HX.out]; exact hK)⟩
        case measure => simp [intOf]; omega
      · have HK := Lib.hid (all_bad (p := fun s => keyL (L s)) hlt (by rw [HX.out]; exact hK))
        go_wp2_with (go_at_call 108; refine (key_any _ _ hsk).mono ?_; rintro e w' ⟨rfl, rfl⟩)
        go_ret
        exact ⟨ret_bool HK.out, rfl⟩
    · have HK := Lib.hid (all_good hlt HA.out)
      go_wp2
      go_ret
      exact ⟨ret_bool HK.out, rfl⟩

set_option maxHeartbeats 1000000 in
theorem allPlain_any (A : Option Addr) (c : Nat) (l : List ByteArray) (w : World) (hl : Strs w A l) (hn : l.length ≤ 9223372036854775806) :
    Calls Try.prog 107 #[.func (.func 71) #[] #[], .slice A l.length c] w fun e w' => e = .returned (.bool (allB (fun s => plainL (L s)) l)) ∧ Below w.heap.size w w' := by
  have HL := Lib.hid hl
  clear hl
  have hq : ∀ w, (binOp .eql 49 (.func (.func 71) #[] #[]) .nilFunc).run Try.prog w = .ok (.bool false) w := fun _ => by kernel_rfl
  go_enter Try.func107, Try.ntmps107
  go_wp2
  go_loopw [9] (fun i wr => ∃ k : Nat, k ≤ l.length ∧ i = .int .i64 k ∧ ((l.take k).all fun s => plainL (L s)) = true ∧ Below w.heap.size w wr) (fun i _ => l.length - (intOf i).toNat)
  case atStart => exact ⟨0, Nat.zero_le _, rfl, rfl, Below.refl _ _⟩
  case round =>
    obtain ⟨k, hk, rfl, hA, HB⟩ := hrel
    have HA := Lib.hid hA
    clear hA
    by_cases hlt : k < l.length
    · obtain ⟨b, o, rfl, hc⟩ := (HL.out.below HB) (by intro e; subst e; simp at hlt)
      have hck := hc k hlt
      obtain ⟨x, hx⟩ : ∃ x, l[k] = x := ⟨_, rfl⟩
      rw [hx] at hck
      have HX := Lib.hid hx
      clear hc hx
      rcases Bool.eq_false_or_eq_true (plainL (L x)) with hK | hK
      · go_wp2_with (go_at_call 71; refine (plain_any _ _).mono ?_; rintro e w' ⟨rfl, hb⟩; have HB := bstep HB hb)
        go_roundw
        case rel => exact ⟨k + 1, by omega, by go_num, all_take hlt HA.out (by rw [HX.out]; exact hK), HB⟩
        case measure => simp [intOf]; omega
      · have HK := Lib.hid (all_bad (p := fun s => plainL (L s)) hlt (by rw [HX.out]; exact hK))
        go_wp2_with (go_at_call 71; refine (plain_any _ _).mono ?_; rintro e w' ⟨rfl, hb⟩; have HB := bstep HB hb)
        go_ret
        exact ⟨ret_bool HK.out, HB⟩
    · have HK := Lib.hid (all_good hlt HA.out)
      go_wp2
      go_ret
      exact ⟨ret_bool HK.out, HB⟩

end Go.Proofs.Ytnlpohcnlmdocaa
