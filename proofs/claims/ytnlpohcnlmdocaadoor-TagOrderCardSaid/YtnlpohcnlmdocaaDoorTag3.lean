/- The law TagTexts: its walk. -/
import Derived.Test.YtnlpohcnlmdocaaDoorTag2
namespace Go.Proofs.YtnlpohcnlmdocaaDoor
open Go.RowKit Go.Shelf
set_option linter.unusedSimpArgs false
set_option linter.unusedVariables false

/-- The library's own number (how long a text it searches at once): whatever it is. -/
def MaxAt (w : World) : Prop := ∃ m, w.cell? ⟨0, 0, none⟩ = some (.int .i64 m)
theorem MaxAt.below {w w' : World} (h : MaxAt w) (hb : Below w.heap.size w w') : MaxAt w' := by
  obtain ⟨m, hm⟩ := h
  exact ⟨m, (hb.cell (p := ⟨0, 0, none⟩) (cell_lt hm)).trans hm⟩

set_option maxHeartbeats 2000000 in
theorem ofNil_any (A : Option Addr) (c : Nat) (l : List ByteArray) (w : World) (hl : Strs w A l) (hn : l.length ≤ 1000) :
    Calls Tryd.prog 11 #[.pointer none, .slice A l.length c] w fun e w' => e = .returned (.slice none 0 0) ∧ Below w.heap.size w w' := by
  have HL := Lib.hid hl
  clear hl
  have HB0 := Lib.hid (Below.refl w.heap.size w)
  go_enter Tryd.func11, Tryd.ntmps11
  go_wp2
  go_loopw [5, 10] (fun v i wr => ∃ k : Nat, k ≤ l.length ∧ i = .int .i64 k ∧ v = .slice none 0 0 ∧ Hid (Below w.heap.size w wr)) (fun _ i _ => l.length - (intOf i).toNat)
  case atStart => exact ⟨0, Nat.zero_le _, rfl, rfl, HB0⟩
  case round =>
    obtain ⟨k, hk, rfl, rfl, HB⟩ := hrel
    by_cases hlt : k < l.length
    · obtain ⟨b, o, rfl, hc⟩ := (HL.out.below HB.out) (by intro e; subst e; simp at hlt)
      have hck := hc k hlt
      generalize l[k] = x at *
      clear hc
      go_wp2_with (go_at_call 7; refine (wantsNil_any _ _).mono ?_; rintro e w1 ⟨rfl, hb1⟩; have HB1 := Lib.hid (bstep HB.out hb1))
      go_roundw
      case rel => exact ⟨k + 1, by omega, by go_num, rfl, HB1⟩
      case measure => simp [intOf]; omega
    · obtain rfl : k = l.length := by omega
      go_wp2
      go_ret
      exact ⟨rfl, HB.out⟩

theorem tags_xy : tagsOf ⟨#[120, 32, 124, 124, 32, 121]⟩ = [⟨#[120]⟩, ⟨#[121]⟩] := by decide +kernel
theorem err_xy : errT [⟨#[120]⟩, ⟨#[121]⟩] = 0 := by decide +kernel
theorem wants_y : wantsL [⟨#[120]⟩, ⟨#[121]⟩] ⟨#[121]⟩ = true := by decide +kernel
theorem wants_z : wantsL [⟨#[120]⟩, ⟨#[121]⟩] ⟨#[122]⟩ = false := by decide +kernel
set_option maxHeartbeats 2000000 in
theorem awake9_any (w : World) (hm : MaxAt w) : Calls Tryd.prog 5 #[] w fun e w' => e = .returned (.bool true) ∧ Below w.heap.size w w' := by
  obtain ⟨m, hm⟩ := hm
  have hP := parse_any ⟨#[120, 32, 124, 124, 32, 121]⟩ m w (by rw [L_of]; decide) (by decide) hm
  rw [tags_xy] at hP
  have HP := Lib.hid hP
  clear hP hm
  go_enter Tryd.func5, Tryd.ntmps5
  go_wp2_with fail
  refine HP.out.mono ?_
  rintro e w1 ⟨⟨h, _⟩ | ⟨_, g, rfl, hF⟩, hb⟩
  · exact absurd err_xy h
  have HF := Lib.hid hF
  clear hF
  go_wp2_with fail
  refine (wants_any g _ ⟨#[121]⟩ w1 HF.out (by decide)).mono ?_
  rintro e w2 ⟨rfl, hb2⟩
  rw [wants_y]
  have HF2 := Lib.hid (HF.out.below hb2)
  go_wp2_with fail
  refine (wants_any g _ ⟨#[122]⟩ w2 HF2.out (by decide)).mono ?_
  rintro e w3 ⟨rfl, hb3⟩
  rw [wants_z]
  go_wp2
  go_ret
  exact ⟨rfl, bstep (bstep hb hb2) hb3⟩

/-- What Parse hands back of any text that is not too long: a filter of just that text, or none. -/
def TextIs (s : ByteArray) (e : Ending) (w' : World) : Prop :=
  (e = .returned (.tuple #[.pointer none, .int .i64 4])) ∨ (∃ g l, e = .returned (.tuple #[.pointer (some ⟨g, 0, none⟩), .int .i64 0]) ∧ Filt w' g l ∧ l.length ≤ s.size + 1 ∧ textB l = s ∧ (Lib.join (l.map (·.data.toList)) orB.data.toList).length ≤ s.size)
theorem parse_text (s : ByteArray) (w : World) (hz : s.size ≤ 300) (hm : MaxAt w) :
    Calls Tryd.prog 9 #[.string s] w fun e w' => TextIs s e w' ∧ Below w.heap.size w w' := by
  obtain ⟨m, hm⟩ := hm
  rcases Bool.eq_false_or_eq_true (s.toList == [42]) with hs | hs
  · obtain rfl : s = ⟨#[42]⟩ := L_inj (by rw [← L_of]; exact beq_iff_eq.1 hs)
    refine (parseStar_any w).mono ?_
    rintro e w' ⟨⟨g, rfl, hF⟩, hb⟩
    exact ⟨.inr ⟨g, [], rfl, hF, by simp, by unfold textB; rw [if_pos rfl], by simp [Lib.join]⟩, hb⟩
  · refine (parse_any s m w hs (by omega) hm).mono ?_
    rintro e w' ⟨⟨_, rfl⟩ | ⟨_, g, rfl, hF⟩, hb⟩
    · exact ⟨.inl rfl, hb⟩
    · have hle := Lib.countB_le orB (by decide) s.size s (Nat.le_refl _)
      have hne : tagsOf s ≠ [] := by intro e; have := tags_len s; rw [e] at this; simp at this
      refine ⟨.inr ⟨g, _, rfl, hF, by rw [tags_len]; omega, by unfold textB; rw [if_neg hne, join_tags], ?_⟩, hb⟩
      unfold tagsOf; rw [join_split]; exact Nat.le_refl _

set_option maxHeartbeats 4000000 in
theorem texts_walk (s : ByteArray) (h : Int) (w : World) (hz : s.size ≤ 9223372036854775807) (hm : MaxAt w) :
    Calls Tryd.prog 4 #[.string s, .int .i64 h] w fun e w' => e = .returned (.bool true) ∧ Below w.heap.size w w' := by
  have HM := Lib.hid hm
  clear hm
  go_enter Tryd.func4, Tryd.ntmps4
  go_wp2_with fail
  refine (awake9_any w HM.out).mono ?_
  rintro e w1 ⟨rfl, hb1⟩
  rcases Bool.eq_false_or_eq_true (decide ((300 : Int) < (s.size : Int))) with h3 | h3
  · go_wp2
    go_ret
    exact ⟨rfl, hb1⟩
  have hs3 : s.size ≤ 300 := by have := of_decide_eq_false h3; omega
  have HM1 := Lib.hid (HM.out.below hb1)
  go_wp2_with fail
  refine (parse_text s w1 hs3 HM1.out).mono ?_
  rintro e w2 ⟨hP, hb2⟩
  have HB2 := bstep hb1 hb2
  clear hb1 hb2 HM1
  rcases hP with rfl | ⟨g, l, rfl, hF, hln, hT, hjl⟩
  · go_wp2_with (first
      | (go_at_call 10; refine (textNil_any _).mono ?_; rintro e w3 ⟨rfl, rfl⟩)
      | (go_at_call 8; refine (quickNil_any _ _).mono ?_; rintro e w3 ⟨rfl, hb3⟩; have HB3 := bstep HB2 hb3)
      | (go_at_call 7; refine (wantsNil_any _ _).mono ?_; rintro e w4 ⟨rfl, hb4⟩; have HB4 := bstep HB3 hb4)
      | (go_at_call 11; refine (show Calls _ _ #[_, .slice _ 1 1] _ _ from ofNil_any _ _ [s] _ (strs_new [s] w4) (by simp)).mono ?_; rintro e w5 ⟨rfl, hb5⟩; have HB5 := bstep (balloc HB4) hb5))
    go_ret
    exact ⟨rfl, HB5⟩
  · have HF := Lib.hid hF
    have HT := Lib.hid hT
    clear hF hT
    go_wp2_with fail
    refine (textNil_any _).mono ?_
    rintro e w3 ⟨rfl, rfl⟩
    go_wp2_with fail
    refine (quickNil_any _ _).mono ?_
    rintro e w3 ⟨rfl, hb3⟩
    have HB3 := bstep HB2 hb3
    have HF3 := Lib.hid (HF.out.below hb3)
    go_wp2_with fail
    refine (wantsNil_any _ _).mono ?_
    rintro e w4 ⟨rfl, hb4⟩
    have HB4 := bstep HB3 hb4
    have HF4 := Lib.hid ((HF3.out.below hb4).below (balloc (o := .cells #[.string s] 9) (Below.refl _ _)))
    have hS4 : Strs (w4.alloc (.cells #[.string s] 9)) (some ⟨w4.heap.size, 0, none⟩) [s] := strs_new [s] w4
    have hO := ofNil_any _ 1 [s] _ hS4 (by simp)
    go_wp2_with fail
    refine (show Calls _ _ #[_, .slice _ 1 1] _ _ from hO).mono ?_
    rintro e w5 ⟨rfl, hb5⟩
    have HB5 := bstep (balloc HB4) hb5
    have HF5 := Lib.hid (HF4.out.below hb5)
    clear hO hS4
    go_wp2_with fail
    refine (text_any g l w5 HF5.out (by omega) (by omega)).mono ?_
    rintro e w6 ⟨rfl, hb6⟩
    have HB6 := bstep HB5 hb6
    rw [HT.out]
    go_wp2
    go_ret
    exact ⟨rfl, HB6⟩

end Go.Proofs.YtnlpohcnlmdocaaDoor
