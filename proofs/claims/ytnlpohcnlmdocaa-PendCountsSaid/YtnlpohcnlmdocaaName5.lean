/- Topics of the broker's own: the program's answer. -/
import Derived.Test.YtnlpohcnlmdocaaName4
import Derived.Handy
namespace Go.Proofs.Ytnlpohcnlmdocaa
open Go.RowKit Go.Shelf

theorem cutP (s p : ByteArray) : (⟨(Lib.trimPrefix s.data.toList p.data.toList).toArray⟩ : ByteArray) = if Lib.hasPrefix (L s) (L p) = true then s.extract p.size s.size else s := by
  apply L_inj
  unfold Lib.trimPrefix
  by_cases h : Lib.hasPrefix (L s) (L p) = true
  · rw [if_pos h]
    show L ⟨(if Lib.hasPrefix (L s) (L p) = true then (L s).drop (L p).length else L s).toArray⟩ = _
    rw [if_pos h, L_from, L_len]; rfl
  · rw [if_neg h]
    show L ⟨(if Lib.hasPrefix (L s) (L p) = true then (L s).drop (L p).length else L s).toArray⟩ = _
    rw [if_neg h]; rfl

theorem cutP_yes {s p : ByteArray} (w : World) (h : Lib.hasPrefix (L s) (L p) = true) :
    Calls Try.prog 137 #[.string s, .string p] w fun e w' => e = .returned (.tuple #[.string (s.extract p.size s.size), .bool true]) ∧ w = w' := by
  refine (Try.strings_CutPrefix s p w).mono ?_
  rintro e w' ⟨rfl, rfl⟩
  rw [cutP, if_pos h]
  exact ⟨by show Ending.returned (.tuple #[_, .bool (Lib.hasPrefix (L s) (L p))]) = _; rw [h], rfl⟩
theorem cutP_no {s p : ByteArray} (w : World) (h : Lib.hasPrefix (L s) (L p) = false) :
    Calls Try.prog 137 #[.string s, .string p] w fun e w' => e = .returned (.tuple #[.string s, .bool false]) ∧ w = w' := by
  refine (Try.strings_CutPrefix s p w).mono ?_
  rintro e w' ⟨rfl, rfl⟩
  rw [cutP, if_neg (by simp [h])]
  exact ⟨by show Ending.returned (.tuple #[_, .bool (Lib.hasPrefix (L s) (L p))]) = _; rw [h], rfl⟩

theorem of_end {s g : ByteArray} {o : Bool} (h : g = ofB s) (ho : o = (ofL (L s)).isSome) : Ending.returned (.tuple #[.string g, .bool o]) = .returned (.tuple #[.string (ofB s), .bool (ofL (L s)).isSome]) := by rw [h, ho]

set_option maxHeartbeats 4000000 in
theorem of_any (s : ByteArray) (w : World) : Calls Try.prog 126 #[.string s] w fun e w' => e = .returned (.tuple #[.string (ofB s), .bool (ofL (L s)).isSome]) ∧ Below w.heap.size w w' := by
  have HO : Hid ((Lib.hasPrefix (L s) (L ⟨#[37, 114, 101, 116, 114, 121, 37]⟩) = true ∧ 7 ≤ s.size ∧ groupL (L (s.extract 7 s.size)) = true → s.extract 7 s.size = ofB s ∧ true = (ofL (L s)).isSome) ∧ (((Lib.hasPrefix (L s) (L ⟨#[37, 114, 101, 116, 114, 121, 37]⟩) = false ∨ groupL (L (s.extract 7 s.size)) = false) ∧ Lib.hasPrefix (L s) (L ⟨#[37, 100, 101, 97, 100, 37]⟩) = true ∧ groupL (L (s.extract 6 s.size)) = true) → s.extract 6 s.size = ofB s ∧ true = (ofL (L s)).isSome) ∧
      ((Lib.hasPrefix (L s) (L ⟨#[37, 114, 101, 116, 114, 121, 37]⟩) = false ∨ groupL (L (s.extract 7 s.size)) = false) ∧ (Lib.hasPrefix (L s) (L ⟨#[37, 100, 101, 97, 100, 37]⟩) = false ∨ groupL (L (s.extract 6 s.size)) = false) → ⟨#[]⟩ = ofB s ∧ false = (ofL (L s)).isSome)) :=
    ⟨fun h => ⟨ofB_retry h.1 h.2.2, by rw [of_retry h.1 h.2.2]; rfl⟩, fun h => ⟨ofB_dead h.1 h.2.1 h.2.2, by rw [of_dead h.1 h.2.1 h.2.2]; rfl⟩, fun h => ⟨ofB_no h.1 h.2, by rw [of_no h.1 h.2]; rfl⟩⟩
  have HB := Below.refl w.heap.size w
  rcases of_ways s with ⟨hR, h7, hG⟩ | ⟨⟨hR, h7, hG⟩ | hR, ⟨hD, h6, hH⟩ | ⟨hD, h6, hH⟩ | hD⟩
  · go_enter Try.func126, Try.ntmps126
    go_wp2
    refine wp_loop_rounds 1 ?_
    rw [rounds_succ]
    go_wp2_with (first | (go_at_call 137; (with_reducible refine (cutP_yes _ hR).mono ?_); rintro e w' ⟨rfl, rfl⟩) | (go_at_call 137; (with_reducible refine (cutP_yes _ hD).mono ?_); rintro e w' ⟨rfl, rfl⟩) | (go_at_call 137; (with_reducible refine (cutP_no _ hR).mono ?_); rintro e w' ⟨rfl, rfl⟩) | (go_at_call 137; (with_reducible refine (cutP_no _ hD).mono ?_); rintro e w' ⟨rfl, rfl⟩) | (go_at_call 43; refine (group_any _ _).mono ?_; rintro e w' ⟨rfl, hb⟩; obtain ⟨hc, hf⟩ := bcell hb; have hz := hb.size; (try simp at hz); have HB := bstep (by repeat (first | exact HB | apply balloc)) hb))
    go_ret2
    obtain ⟨O1, O2⟩ := HO.out.1 ⟨hR, h7, hG⟩
    exact ⟨of_end O1 O2, HB⟩
  all_goals
    go_enter Try.func126, Try.ntmps126
    go_wp2
    refine wp_loop_rounds 3 ?_
    rw [rounds_succ]
    go_wp2_with (first | (go_at_call 137; (with_reducible refine (cutP_yes _ hR).mono ?_); rintro e w' ⟨rfl, rfl⟩) | (go_at_call 137; (with_reducible refine (cutP_yes _ hD).mono ?_); rintro e w' ⟨rfl, rfl⟩) | (go_at_call 137; (with_reducible refine (cutP_no _ hR).mono ?_); rintro e w' ⟨rfl, rfl⟩) | (go_at_call 137; (with_reducible refine (cutP_no _ hD).mono ?_); rintro e w' ⟨rfl, rfl⟩) | (go_at_call 43; refine (group_any _ _).mono ?_; rintro e w' ⟨rfl, hb⟩; obtain ⟨hc, hf⟩ := bcell hb; have hz := hb.size; (try simp at hz); have HB := bstep (by repeat (first | exact HB | apply balloc)) hb))
    rw [rounds_succ]
    go_wp2_with (first | (go_at_call 137; (with_reducible refine (cutP_yes _ hR).mono ?_); rintro e w' ⟨rfl, rfl⟩) | (go_at_call 137; (with_reducible refine (cutP_yes _ hD).mono ?_); rintro e w' ⟨rfl, rfl⟩) | (go_at_call 137; (with_reducible refine (cutP_no _ hR).mono ?_); rintro e w' ⟨rfl, rfl⟩) | (go_at_call 137; (with_reducible refine (cutP_no _ hD).mono ?_); rintro e w' ⟨rfl, rfl⟩) | (go_at_call 43; refine (group_any _ _).mono ?_; rintro e w' ⟨rfl, hb⟩; obtain ⟨hc, hf⟩ := bcell hb; have hz := hb.size; (try simp at hz); have HB := bstep (by repeat (first | exact HB | apply balloc)) hb))
    try (rw [rounds_succ]; go_wp2)
    go_ret2
    obtain ⟨-, O2, O3⟩ := HO.out
    first
    | exact ⟨of_end (O2 ⟨by first | exact .inl hR | exact .inr hG, hD, hH⟩).1 (O2 ⟨by first | exact .inl hR | exact .inr hG, hD, hH⟩).2, by repeat (first | exact HB | apply balloc)⟩
    | exact ⟨of_end (O3 ⟨by first | exact .inl hR | exact .inr hG, by first | exact .inl hD | exact .inr hH⟩).1 (O3 ⟨by first | exact .inl hR | exact .inr hG, by first | exact .inl hD | exact .inr hH⟩).2, by repeat (first | exact HB | apply balloc)⟩

set_option maxHeartbeats 1000000 in
theorem topic_any (s : ByteArray) (w : World) : Calls Try.prog 105 #[.string s] w fun e w' => e = .returned (.bool (topicL (L s))) ∧ Below w.heap.size w w' := by
  have HB := Below.refl w.heap.size w
  have HT := Lib.hid (show topicL (L s) = ((ofL (L s)).isSome || plainL (L s)) from rfl)
  rcases Bool.eq_false_or_eq_true (ofL (L s)).isSome with hO | hO
  all_goals
    have HO := Lib.hid hO
    go_enter Try.func105, Try.ntmps105
    go_wp2_with (first | (go_at_call 126; refine (of_any _ _).mono ?_; rintro e w' ⟨rfl, hb⟩; have HB := bstep HB hb) | (go_at_call 71; refine (plain_any _ _).mono ?_; rintro e w' ⟨rfl, hb⟩; have HB := bstep HB hb))
    go_ret
    exact ⟨ret_bool (by rw [HT.out, HO.out]; rfl), HB⟩

end Go.Proofs.Ytnlpohcnlmdocaa
