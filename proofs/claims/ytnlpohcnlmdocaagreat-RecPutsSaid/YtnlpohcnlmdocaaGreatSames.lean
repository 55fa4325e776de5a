/- The document's comparison of two lists of texts. -/
import Derived.Test.YtnlpohcnlmdocaaGreatMsg
namespace Go.Proofs.YtnlpohcnlmdocaaGreat
open Go.RowKit Go.Shelf

theorem take_ne {l l' : List ByteArray} {k : Nat} (h : k < l.length) (h' : k < l'.length) (hne : (l[k].toList == l'[k].toList) = false) : false = decide (l = l') := by
  symm; rw [decide_eq_false_iff_not]; rintro rfl; simp at hne
theorem take_eq {l l' : List ByteArray} {k : Nat} (h : k < l.length) (h' : k < l'.length) (hA : l.take k = l'.take k) (hne : (l[k].toList == l'[k].toList) = true) : l.take (k + 1) = l'.take (k + 1) := by
  have : l[k] = l'[k] := by
    apply L_inj; rw [L_of, L_of] at hne; simpa using hne
  rw [List.take_succ_eq_append_getElem h, List.take_succ_eq_append_getElem h', hA, this]

set_option maxHeartbeats 1000000 in
theorem rSames_any (A A' : Option Addr) (c c' : Nat) (l l' : List ByteArray) (w : World) (hl : Strs w A l) (hl' : Strs w A' l') (hn : l.length ≤ 9223372036854775806) (hn' : l'.length ≤ 9223372036854775806) :
    Calls Tryz.prog 35 #[.slice A l.length c, .slice A' l'.length c'] w fun e w' => e = .returned (.bool (decide (l = l'))) ∧ Drn w w' := by
  have HL := Lib.hid hl
  have HL' := Lib.hid hl'
  clear hl hl'
  by_cases hE : l.length = l'.length
  · have hne : ((l.length : Int) != (l'.length : Int)) = false := by simp [hE]
    have HE := Lib.hid hE
    clear hE
    go_enter Tryz.func35, Tryz.ntmps35
    go_wp2
    go_loopw [5] (fun i wr => ∃ k : Nat, k ≤ l.length ∧ i = .int .i64 k ∧ Hid (l.take k = l'.take k) ∧ Drn w wr) (fun i _ => l.length - (intOf i).toNat)
    case atStart => exact ⟨0, Nat.zero_le _, rfl, rfl, Drn.refl _⟩
    case round =>
      obtain ⟨k, hk, rfl, HA, hD⟩ := hrel
      have hD' := hD
      obtain ⟨q, rfl⟩ := hD
      by_cases hlt : k < l.length
      · have hlt' : k < l'.length := by have := HE.out; omega
        obtain ⟨b, o, rfl, hc⟩ := HL.out (by intro e; subst e; simp at hlt)
        obtain ⟨b', o', rfl, hc'⟩ := HL'.out (by intro e; subst e; simp at hlt')
        have hck := hc k hlt
        have hck' := hc' k hlt'
        obtain ⟨x, hx⟩ : ∃ x, l[k] = x := ⟨_, rfl⟩
        obtain ⟨y, hy⟩ : ∃ y, l'[k] = y := ⟨_, rfl⟩
        have HN := Lib.hid (take_ne (l := l) (l' := l') hlt hlt')
        have HT := Lib.hid (take_eq (l := l) (l' := l') hlt hlt' HA.out)
        rw [hx] at hck HN HT
        rw [hy] at hck' HN HT
        clear hc hc' hx hy
        rcases (Bool.eq_false_or_eq_true (x.toList == y.toList)).symm with hX | hX
        · go_wp2
          go_quiet (fail)
          go_wp2
          go_ret
          exact ⟨ret_bool (HN.out hX), by first | exact Drn.of _ _ | exact (Drn.of _ _).more _⟩
        · go_wp2
          go_quiet (fail)
          go_wp2
          go_roundw
          case rel => exact ⟨k + 1, by omega, by go_num, HT.out hX, by first | exact Drn.of _ _ | exact (Drn.of _ _).more _⟩
          case measure => simp [intOf]; omega
      · have HK := Lib.hid (show true = decide (l = l') by
          symm; rw [decide_eq_true_iff]
          have h := HA.out
          rwa [List.take_of_length_le (by omega), List.take_of_length_le (by have := HE.out; omega)] at h)
        go_wp2
        go_ret
        exact ⟨ret_bool HK.out, hD'⟩
  · have hne : ((l.length : Int) != (l'.length : Int)) = true := by simp; omega
    have HK := Lib.hid (show false = decide (l = l') by symm; rw [decide_eq_false_iff_not]; rintro rfl; exact hE rfl)
    clear hE
    go_enter Tryz.func35, Tryz.ntmps35
    go_wp2
    go_ret
    exact ⟨ret_bool HK.out, Drn.refl _⟩

end Go.Proofs.YtnlpohcnlmdocaaGreat
