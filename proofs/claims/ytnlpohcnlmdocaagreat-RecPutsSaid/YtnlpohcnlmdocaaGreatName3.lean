/- Groups, owners, topics and tags: the program's and the document's answers. -/
import Derived.Test.YtnlpohcnlmdocaaGreatName2
import Derived.WalkLawsBesides
namespace Go.Proofs.YtnlpohcnlmdocaaGreat
open Go.RowKit Go.Shelf

set_option maxHeartbeats 1000000 in
theorem group_any (s : ByteArray) (w : World) : Calls Tryz.prog 81 #[.string s] w fun e w' => e = .returned (.bool (groupL (L s))) ∧ Below w.heap.size w w' := by
  go_enter Tryz.func81, Tryz.ntmps81
  go_wp2_with (go_at_call 65; refine (plain_any _ _).mono ?_; rintro e w' ⟨rfl, hb⟩)
  all_goals
    go_ret
    exact ⟨ret_bool (by unfold groupL; rw [L_len]; simp [*] <;> omega), hb⟩

set_option maxHeartbeats 1000000 in
theorem rGroup_any (s : ByteArray) (w : World) (hs : s.size ≤ 9223372036854775807) : Calls Tryz.prog 79 #[.string s] w fun e w' => e = .returned (.bool (groupL (L s))) ∧ w = w' := by
  go_enter Tryz.func79, Tryz.ntmps79
  go_wp2_with (go_at_call 61; refine (rPlain_any _ _ hs).mono ?_; rintro e w' ⟨rfl, rfl⟩)
  all_goals
    go_ret
    exact ⟨ret_bool (by unfold groupL; rw [L_len]; simp [*] <;> omega), rfl⟩

set_option maxHeartbeats 1000000 in
theorem has_any (s p : ByteArray) (w : World) (_hs : s.size ≤ 9223372036854775807) : Calls Tryz.prog 78 #[.string s, .string p] w fun e w' => e = .returned (.bool (Lib.hasPrefix (L s) (L p))) ∧ w = w' := by
  by_cases h : p.size ≤ s.size
  · go_enter Tryz.func78, Tryz.ntmps78
    go_wp2
    go_ret
    exact ⟨ret_bool (has_eq s p), rfl⟩
  · have HP := Lib.hid (has_long (Nat.lt_of_not_le h))
    go_enter Tryz.func78, Tryz.ntmps78
    go_wp2
    go_ret
    exact ⟨ret_bool HP.out.symm, rfl⟩

/-- The document's: "": it is none. -/
def ofB (s : ByteArray) : ByteArray := B ((ofL (L s)).getD [])

theorem of_retry {s : ByteArray} (h1 : Lib.hasPrefix (L s) (L ⟨#[37, 114, 101, 116, 114, 121, 37]⟩) = true) (h2 : groupL (L (s.extract 7 s.size)) = true) : ofL (L s) = some (L (s.extract 7 s.size)) := by
  rw [L_from] at h2 ⊢; unfold ofL; rw [if_pos ⟨h1, h2⟩]
theorem of_dead {s : ByteArray} (h1 : Lib.hasPrefix (L s) (L ⟨#[37, 114, 101, 116, 114, 121, 37]⟩) = false ∨ groupL (L (s.extract 7 s.size)) = false) (h2 : Lib.hasPrefix (L s) (L ⟨#[37, 100, 101, 97, 100, 37]⟩) = true) (h3 : groupL (L (s.extract 6 s.size)) = true) :
    ofL (L s) = some (L (s.extract 6 s.size)) := by
  rw [L_from] at h1 h3; rw [L_from]; unfold ofL
  rw [if_neg (fun h => by rcases h1 with h1 | h1 <;> simp [retryL, L] at h h1 <;> simp_all), if_pos ⟨h2, h3⟩]
theorem of_no {s : ByteArray} (h1 : Lib.hasPrefix (L s) (L ⟨#[37, 114, 101, 116, 114, 121, 37]⟩) = false ∨ groupL (L (s.extract 7 s.size)) = false) (h2 : Lib.hasPrefix (L s) (L ⟨#[37, 100, 101, 97, 100, 37]⟩) = false ∨ groupL (L (s.extract 6 s.size)) = false) : ofL (L s) = none := by
  rw [L_from] at h1 h2; unfold ofL
  rw [if_neg (fun h => by rcases h1 with h1 | h1 <;> simp [retryL, L] at h h1 <;> simp_all), if_neg (fun h => by rcases h2 with h2 | h2 <;> simp [deadL, L] at h h2 <;> simp_all)]

theorem ofB_retry {s : ByteArray} (h1 : Lib.hasPrefix (L s) (L ⟨#[37, 114, 101, 116, 114, 121, 37]⟩) = true) (h2 : groupL (L (s.extract 7 s.size)) = true) : s.extract 7 s.size = ofB s := by
  unfold ofB; rw [of_retry h1 h2]; exact (B_L _).symm
theorem ofB_dead {s : ByteArray} (h1 : Lib.hasPrefix (L s) (L ⟨#[37, 114, 101, 116, 114, 121, 37]⟩) = false ∨ groupL (L (s.extract 7 s.size)) = false) (h2 : Lib.hasPrefix (L s) (L ⟨#[37, 100, 101, 97, 100, 37]⟩) = true) (h3 : groupL (L (s.extract 6 s.size)) = true) : s.extract 6 s.size = ofB s := by
  unfold ofB; rw [of_dead h1 h2 h3]; exact (B_L _).symm
theorem ofB_no {s : ByteArray} (h1 : Lib.hasPrefix (L s) (L ⟨#[37, 114, 101, 116, 114, 121, 37]⟩) = false ∨ groupL (L (s.extract 7 s.size)) = false) (h2 : Lib.hasPrefix (L s) (L ⟨#[37, 100, 101, 97, 100, 37]⟩) = false ∨ groupL (L (s.extract 6 s.size)) = false) : ⟨#[]⟩ = ofB s := by
  unfold ofB; rw [of_no h1 h2]; rfl

/-- The ways of a topic's text, each with what its walk needs. -/
theorem of_ways (s : ByteArray) :
    (Lib.hasPrefix (L s) (L ⟨#[37, 114, 101, 116, 114, 121, 37]⟩) = true ∧ 7 ≤ s.size ∧ groupL (L (s.extract 7 s.size)) = true) ∨
    ((Lib.hasPrefix (L s) (L ⟨#[37, 114, 101, 116, 114, 121, 37]⟩) = true ∧ 7 ≤ s.size ∧ groupL (L (s.extract 7 s.size)) = false) ∨ Lib.hasPrefix (L s) (L ⟨#[37, 114, 101, 116, 114, 121, 37]⟩) = false) ∧
      ((Lib.hasPrefix (L s) (L ⟨#[37, 100, 101, 97, 100, 37]⟩) = true ∧ 6 ≤ s.size ∧ groupL (L (s.extract 6 s.size)) = true) ∨
       (Lib.hasPrefix (L s) (L ⟨#[37, 100, 101, 97, 100, 37]⟩) = true ∧ 6 ≤ s.size ∧ groupL (L (s.extract 6 s.size)) = false) ∨ Lib.hasPrefix (L s) (L ⟨#[37, 100, 101, 97, 100, 37]⟩) = false) := by
  have h7 : Lib.hasPrefix (L s) (L ⟨#[37, 114, 101, 116, 114, 121, 37]⟩) = true → 7 ≤ s.size := fun h => has_size h
  have h6 : Lib.hasPrefix (L s) (L ⟨#[37, 100, 101, 97, 100, 37]⟩) = true → 6 ≤ s.size := fun h => has_size h
  revert h7 h6
  generalize Lib.hasPrefix (L s) (L ⟨#[37, 114, 101, 116, 114, 121, 37]⟩) = a
  generalize Lib.hasPrefix (L s) (L ⟨#[37, 100, 101, 97, 100, 37]⟩) = b
  generalize groupL (L (s.extract 7 s.size)) = c
  generalize groupL (L (s.extract 6 s.size)) = d
  intro h7 h6
  cases a <;> cases b <;> cases c <;> cases d <;> simp_all

set_option maxHeartbeats 4000000 in
theorem rOf_any (s : ByteArray) (w : World) (hs : s.size ≤ 9223372036854775807) : Calls Tryz.prog 62 #[.string s] w fun e w' => e = .returned (.string (ofB s)) ∧ w = w' := by
  have z7 : (s.extract 7 s.size).size ≤ 9223372036854775807 := by rw [ByteArray.size_extract]; omega
  have z6 : (s.extract 6 s.size).size ≤ 9223372036854775807 := by rw [ByteArray.size_extract]; omega
  have HO : Hid ((Lib.hasPrefix (L s) (L ⟨#[37, 114, 101, 116, 114, 121, 37]⟩) = true ∧ 7 ≤ s.size ∧ groupL (L (s.extract 7 s.size)) = true → s.extract 7 s.size = ofB s) ∧ (((Lib.hasPrefix (L s) (L ⟨#[37, 114, 101, 116, 114, 121, 37]⟩) = false ∨ groupL (L (s.extract 7 s.size)) = false) ∧ Lib.hasPrefix (L s) (L ⟨#[37, 100, 101, 97, 100, 37]⟩) = true ∧ groupL (L (s.extract 6 s.size)) = true) → s.extract 6 s.size = ofB s) ∧
      ((Lib.hasPrefix (L s) (L ⟨#[37, 114, 101, 116, 114, 121, 37]⟩) = false ∨ groupL (L (s.extract 7 s.size)) = false) ∧ (Lib.hasPrefix (L s) (L ⟨#[37, 100, 101, 97, 100, 37]⟩) = false ∨ groupL (L (s.extract 6 s.size)) = false) → ⟨#[]⟩ = ofB s)) :=
    ⟨fun h => ofB_retry h.1 h.2.2, fun h => ofB_dead h.1 h.2.1 h.2.2, fun h => ofB_no h.1 h.2⟩
  rcases of_ways s with ⟨hR, h7, hG⟩ | ⟨⟨hR, h7, hG⟩ | hR, ⟨hD, h6, hH⟩ | ⟨hD, h6, hH⟩ | hD⟩
  all_goals
    go_enter Tryz.func62, Tryz.ntmps62
    go_wp2_with (first | (go_at_call 78; refine (has_any _ _ _ hs).mono ?_; rintro e w' ⟨rfl, rfl⟩) | (go_at_call 79; refine (rGroup_any _ _ (by with_reducible first | exact z7 | exact z6)).mono ?_; rintro e w' ⟨rfl, rfl⟩))
    go_ret
    obtain ⟨O1, O2, O3⟩ := HO.out
    first
    | exact ⟨ret_str (O1 ⟨hR, h7, hG⟩), rfl⟩
    | exact ⟨ret_str (O2 ⟨by first | exact .inl hR | exact .inr hG, hD, hH⟩), rfl⟩
    | exact ⟨ret_str (O3 ⟨by first | exact .inl hR | exact .inr hG, by first | exact .inl hD | exact .inr hH⟩), rfl⟩

theorem ofB_empty (s : ByteArray) : (!(ofB s).toList.isEmpty) = (ofL (L s)).isSome := by
  rw [L_empty]; unfold ofB; rw [B_size]
  cases h : ofL (L s) with
  | none => simp
  | some g => have := group_pos (of_pos h); simp [this]

set_option maxHeartbeats 1000000 in
theorem rTopic_any (s : ByteArray) (w : World) (hs : s.size ≤ 9223372036854775807) : Calls Tryz.prog 38 #[.string s] w fun e w' => e = .returned (.bool (topicL (L s))) ∧ w = w' := by
  have HE := Lib.hid (ofB_empty s)
  go_enter Tryz.func38, Tryz.ntmps38
  go_wp2_with (first | (go_at_call 61; refine (rPlain_any _ _ hs).mono ?_; rintro e w' ⟨rfl, rfl⟩) | (go_at_call 62; refine (rOf_any _ _ hs).mono ?_; rintro e w' ⟨rfl, rfl⟩))
  all_goals
    go_ret
    exact ⟨ret_bool (by have := HE.out; unfold topicL; simp_all), rfl⟩

set_option maxHeartbeats 1000000 in
theorem rTag_any (s : ByteArray) (w : World) (hs : s.size ≤ 9223372036854775807) : Calls Tryz.prog 39 #[.string s] w fun e w' => e = .returned (.bool (tagL (L s))) ∧ w = w' := by
  go_enter Tryz.func39, Tryz.ntmps39
  go_wp2_with (first | (go_at_call 61; refine (rPlain_any _ _ hs).mono ?_; rintro e w' ⟨rfl, rfl⟩))
  all_goals
    go_ret
    exact ⟨ret_bool (by unfold tagL; rw [← L_of]; (try simp_all)), rfl⟩

set_option maxHeartbeats 1000000 in
theorem tag_any (s : ByteArray) (w : World) : Calls Tryz.prog 44 #[.string s] w fun e w' => e = .returned (.bool (tagL (L s))) ∧ Below w.heap.size w w' := by
  go_enter Tryz.func44, Tryz.ntmps44
  go_wp2_with (first | (go_at_call 65; refine (plain_any _ _).mono ?_; rintro e w' ⟨rfl, hb⟩))
  all_goals
    go_ret
    exact ⟨ret_bool (by unfold tagL; rw [← L_of]; (try simp_all)), by first | exact Below.refl _ _ | exact hb⟩

/-- A topic of the broker's own, for a group. -/
def ownB (h g : ByteArray) : ByteArray := if groupL (L g) = true then h ++ g else ⟨#[]⟩
theorem ownB_yes {h g : ByteArray} (e : groupL (L g) = true) : h ++ g = ownB h g := by unfold ownB; rw [if_pos e]
theorem ownB_no {h g : ByteArray} (e : groupL (L g) = false) : ⟨#[]⟩ = ownB h g := by unfold ownB; rw [if_neg (by simp [e])]

end Go.Proofs.YtnlpohcnlmdocaaGreat
