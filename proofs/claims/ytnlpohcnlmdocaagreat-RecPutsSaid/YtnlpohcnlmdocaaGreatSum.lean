/- The check sum of a text: (*crc.Table).Sum. -/
import Derived.Test.YtnlpohcnlmdocaaGreatCrc
namespace Go.Proofs.YtnlpohcnlmdocaaGreat
open Go.Shelf Go.RowKit
set_option linter.unusedVariables false
set_option linter.unusedSimpArgs false

theorem TabAt.below {w w' : World} {b : Nat} (h : TabAt w b) (hb : Below w.heap.size w w') : TabAt w' b := fun k j hk hj => by
  have hlt : b < w.heap.size := by
    rcases Nat.lt_or_ge b w.heap.size with h1 | h1
    · exact h1
    · exfalso; have := h 0 0 (by omega) (by omega); unfold World.cell? at this; simp [Array.getElem?_eq_none h1] at this
  exact (hb.cell (p := ⟨b, 256 * k + j, none⟩) hlt).trans (h k j hk hj)
def strLen : Value → Nat
  | .string s => s.size
  | _ => 0

set_option maxRecDepth 100000 in
set_option maxHeartbeats 4000000 in
theorem sum_any (b g : Nat) (s : ByteArray) (w : World) (hs : s.size ≤ 9223372036854775800) (ht : TabAt w b) (hg : w.cell? ⟨g, 0, none⟩ = some (.string s)) :
    Calls Tryz.prog 51 #[.pointer (some ⟨b, 0, none⟩), .slice (some ⟨g, 0, none⟩) 1 1] w fun e w' => e = .returned (.int .i64 (sumC (L s))) ∧ Drn w w' := by
  have HT := Lib.hid ht
  clear ht
  go_enter Tryz.func51, Tryz.ntmps51
  go_wp2
  refine wp_loop_rounds 2 ?_
  rw [rounds_succ]
  go_wp2
  go_loopw [5, 7] (fun x y wr => ∃ (v : Nat) (t : ByteArray), x = .int .u32 v ∧ y = .string t ∧ v < 4294967296 ∧ t.size ≤ 9223372036854775800 ∧ Hid (sumFrom v (L t) = sumFrom 4294967295 (L s)) ∧ Hid (Drn w wr)) (fun _ y _ => strLen y)
  case atStart => exact ⟨4294967295, _, rfl, rfl, by omega, hs, rfl, Drn.refl _⟩
  case round =>
    obtain ⟨v, t, rfl, rfl, hv, htl, HS, HD⟩ := hrel
    by_cases hlt : 4 ≤ t.size
    · have HF := Lib.hid (four_sum (v := v) hlt)
      have HX := Lib.hid (L_from t 4)
      have hge : (4 : Int) ≤ (t.size : Int) := by omega
      go_wp2_with (go_at_call 73; refine (four_any b v t _ hv hlt (HT.out.below HD.out.below)).mono ?_; rintro e w' ⟨rfl, hd⟩; obtain ⟨q, rfl⟩ := hd)
      have hsz : (t.extract 4 t.size).size = t.size - 4 := by rw [ByteArray.size_extract]; omega
      have hv2 : fourC v t < 4294967296 := sumFrom_lt hv
      have HS2 : sumFrom (fourC v t) (L (t.extract 4 t.size)) = sumFrom 4294967295 (L s) := by
        rw [fourC, HX.out, ← sumFrom_app, List.take_append_drop]; exact HS.out
      go_roundw
      case rel => exact ⟨fourC v t, _, rfl, rfl, hv2, by rw [hsz]; omega, HS2, HD.out.more _⟩
      case measure => show (t.extract 4 t.size).size < t.size; omega
    · have hge : ¬ (4 : Int) ≤ (t.size : Int) := by omega
      have hF : decide ((4 : Int) ≤ (t.size : Int)) = false := decide_eq_false hge
      go_wp2
      go_loopw [5, 30] (fun x i wr => ∃ (k v' : Nat), k ≤ t.size ∧ i = .int .i64 k ∧ x = .int .u32 v' ∧ v' < 4294967296 ∧ Hid (v' = sumFrom v ((L t).take k)) ∧ Hid (Drn w wr)) (fun _ i _ => t.size - (intOf i).toNat)
      case atStart => exact ⟨0, v, Nat.zero_le _, rfl, rfl, hv, rfl, HD⟩
      case round =>
        rename_i wr2
        obtain ⟨k, v', hk, rfl, rfl, hv', HV, HD2⟩ := hrel
        by_cases hlt2 : k < t.size
        · have HN := Lib.hid (show sumFrom v ((L t).take (k + 1)) = byteC v' t[k].toNat by rw [List.take_succ_eq_append_getElem (by rw [L_len]; exact hlt2), sumFrom_snoc, ← HV.out]; rfl)
          have hb := t[k].toNat_lt
          have hlti : (k : Int) < (t.size : Int) := by omega
          go_wp2
          go_quiet ((go_at_call 74; exact Calls.quiet_of_same ((one_any b v' t[k].toNat _ hv' hb (HT.out.below (HD2.out.more _).below)).mono fun _ _ h => ⟨h.1, h.2.symm⟩)))
          go_wp2
          go_roundw
          case rel => exact ⟨k + 1, _, by omega, by go_num, rfl, byteC_lt hv' hb, HN.out.symm, HD2.out.more _⟩
          case measure => simp [intOf]; omega
        · obtain rfl : k = t.size := by omega
          have HE : Hid (v' = sumFrom 4294967295 (L s)) := by
            show _ = _
            rw [HV.out, List.take_of_length_le (by rw [L_len]; omega)]; exact HS.out
          have hn : bits .xor .u32 IntKind.u32.max (v' : Int) = ((4294967295 - v' : Nat) : Int) := by
            have := u32_xor_nat 4294967295 v' (by omega) hv'
            rw [show ((4294967295 : Nat) : Int) = 4294967295 from rfl] at this
            rw [show IntKind.u32.max = 4294967295 from by decide, this, not32 hv']
          have hr : ((4294967295 - v' : Nat) : Int) ≤ 4294967295 := by omega
          have HR := Lib.hid (show 4294967295 - v' = sumC (L s) by unfold sumC; rw [HE.out])
          generalize 4294967295 - v' = z at *
          go_wp2
          rw [rounds_succ]
          go_wp2
          go_ret
          exact ⟨ret_int (by rw [HR.out]; have hl := sumC_lt (L s); exact wrap64_in (by omega) (by omega)), HD2.out⟩
end Go.Proofs.YtnlpohcnlmdocaaGreat
