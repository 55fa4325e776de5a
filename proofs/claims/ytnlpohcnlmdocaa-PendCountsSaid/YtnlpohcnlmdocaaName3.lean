/- Groups, owners, topics and tags: the program's and the document's answers. -/
import Derived.Test.YtnlpohcnlmdocaaName2
import Derived.WalkLawsBesides
namespace Go.Proofs.Ytnlpohcnlmdocaa
open Go.RowKit Go.Shelf

set_option maxHeartbeats 1000000 in
theorem group_any (s : ByteArray) (w : World) : Calls Try.prog 43 #[.string s] w fun e w' => e = .returned (.bool (groupL (L s))) ∧ Below w.heap.size w w' := by
  go_enter Try.func43, Try.ntmps43
  go_wp2_with (go_at_call 71; refine (plain_any _ _).mono ?_; rintro e w' ⟨rfl, hb⟩)
  all_goals
    go_ret
    exact ⟨ret_bool (by unfold groupL; rw [L_len]; simp [*] <;> omega), hb⟩

set_option maxHeartbeats 1000000 in
theorem rGroup_any (s : ByteArray) (w : World) (hs : s.size ≤ 9223372036854775807) : Calls Try.prog 23 #[.string s] w fun e w' => e = .returned (.bool (groupL (L s))) ∧ w = w' := by
  go_enter Try.func23, Try.ntmps23
  go_wp2_with (go_at_call 48; refine (rPlain_any _ _ hs).mono ?_; rintro e w' ⟨rfl, rfl⟩)
  all_goals
    go_ret
    exact ⟨ret_bool (by unfold groupL; rw [L_len]; simp [*] <;> omega), rfl⟩

set_option maxHeartbeats 1000000 in
theorem has_any (s p : ByteArray) (w : World) (_hs : s.size ≤ 9223372036854775807) : Calls Try.prog 130 #[.string s, .string p] w fun e w' => e = .returned (.bool (Lib.hasPrefix (L s) (L p))) ∧ w = w' := by
  by_cases h : p.size ≤ s.size
  · go_enter Try.func130, Try.ntmps130
    go_wp2
    go_ret
    exact ⟨ret_bool (has_eq s p), rfl⟩
  · have HP := Lib.hid (has_long (Nat.lt_of_not_le h))
    go_enter Try.func130, Try.ntmps130
    go_wp2
    go_ret
    exact ⟨ret_bool HP.out.symm, rfl⟩

/-- The document's: "": it is none. -/
def ofB (s : ByteArray) : ByteArray := B ((ofL (L s)).getD [])

theorem of_retry {s : ByteArray} (h1 : Lib.hasPrefix (L s) (L ⟨#[37, 114, 101, 116, 114, 121, 37]⟩) = true) (h2 : groupL (L (s.extract 7 s.size)) = true) : ofL (L s) = some (L (s.extract 7 s.size)) := by
  rw [L_from] at h2 ⊢; unfold ofL; rw [if_pos ⟨h1, h2⟩]
theorem of_dead {s : ByteArray} (h1 : Lib.hasPrefix (L s) (L ⟨#[37, 114, 101, 116, 114, 121, 37]⟩) = false ∨ groupL (L (s.extract 7 s.size)) = false) (h2 : Lib.hasPrefix (L s) (L ⟨#[37, 100, 101, 97, 100, 37]⟩) = true) (h3 : groupL (L (s.extract 6 s.size)) = true) :
    ofL (L s) = some (L (s.extract 6 s.size)) := by
  rw [L_from] at h1 h3; rw [L_from]; unfold ofL
  rw [if_neg (fun h => by rcases h1 with h1 | h1 <;> simp [retryL, L] at h h1 <;> simp_all), if_pos ⟨h2, h3⟩]
theorem of_no {s : ByteArray} (h1 : Lib.hasPrefix (L s) (L ⟨#[37, 114, 101, 116, 114, 121, 37]⟩) = false ∨ groupL (L (s.extract 7 s.size)) = false) (h2 : Lib.hasPrefix (L s) (L ⟨#[37, 100, 101, 97, 100, 37]⟩) = false ∨ groupL (L (s.extract 6 s.size)) = false) : ofL (L s) = none := by
  rw [L_from] at h1 h2; unfold ofL
  rw [if_neg (fun h => by rcases h1 with h1 | h1 <;> simp [retryL, L] at h h1 <;> simp_all), if_neg (fun h => by rcases h2 with h2 | h2 <;> simp [deadL, L] at h h2 <;> simp_all)]

theorem ofB_retry {s : ByteArray} (h1 : Lib.hasPrefix (L s) (L ⟨#[37, 114, 101, 116, 114, 121, 37]⟩) = true) (h2 : groupL (L (s.extract 7 s.size)) = true) : s.extract 7 s.size = ofB s := by
  unfold ofB; rw [of_retry h1 h2]; exact (B_L _).symm
theorem ofB_dead {s : ByteArray} (h1 : Lib.hasPrefix (L s) (L ⟨#[37, 114, 101, 116, 114, 121, 37]⟩) = false ∨ groupL (L (s.extract 7 s.size)) = false) (h2 : Lib.hasPrefix (L s) (L ⟨#[37, 100, 101, 97, 100, 37]⟩) = true) (h3 : groupL (L (s.extract 6 s.size)) = true) : s.extract 6 s.size = ofB s := by
  unfold ofB; rw [of_dead h1 h2 h3]; exact (B_L _).symm
theorem ofB_no {s : ByteArray} (h1 : Lib.hasPrefix (L s) (L ⟨#[37, 114, 101, 116, 114, 121, 37]⟩) = false ∨ groupL (L (s.extract 7 s.size)) = false) (h2 : Lib.hasPrefix (L s) (L ⟨#[37, 100, 101, 97, 100, 37]⟩) = false ∨ groupL (L (s.extract 6 s.size)) = false) : ⟨#[]⟩ = ofB s := by
  unfold ofB; rw [of_no h1 h2]; rfl

/-- The ways of a topic's text, each with what its walk needs. -/
theorem of_ways (s : ByteArray) :
    (Lib.hasPrefix (L s) (L ⟨#[37, 114, 101, 116, 114, 121, 37]⟩) = true ∧ 7 ≤ s.size ∧ groupL (L (s.extract 7 s.size)) = true) ∨
    ((Lib.hasPrefix (L s) (L ⟨#[37, 114, 101, 116, 114, 121, 37]⟩) = true ∧ 7 ≤ s.size ∧ groupL (L (s.extract 7 s.size)) = false) ∨ Lib.hasPrefix (L s) (L ⟨#[37, 114, 101, 116, 114, 121, 37]⟩) = false) ∧
      ((Lib.hasPrefix (L s) (L ⟨#[37, 100, 101, 97, 100, 37]⟩) = true ∧ 6 ≤ s.size ∧ groupL (L (s.extract 6 s.size)) = true) ∨
       (Lib.hasPrefix (L s) (L ⟨#[37, 100, 101, 97, 100, 37]⟩) = true ∧ 6 ≤ s.size ∧ groupL (L (s.extract 6 s.size)) = false) ∨ Lib.hasPrefix (L s) (L ⟨#[37, 100, 101, 97, 100, 37]⟩) = false) := by
  have h7 : Lib.hasPrefix (L s) (L ⟨#[37, 114, 101, 116, 114, 121, 37]⟩) = true → 7 ≤ s.size := fun h => has_size h
  have h6 : Lib.hasPrefix (L s) (L ⟨#[37, 100, 101, 97, 100, 37]⟩) = true → 6 ≤ s.size := fun h => has_size h
  revert h7 h6
  generalize Lib.hasPrefix (L s) (L ⟨#[37, 114, 101, 116, 114, 121, 37]⟩) = a
  generalize Lib.hasPrefix (L s) (L ⟨#[37, 100, 101, 97, 100, 37]⟩) = b
  generalize groupL (L (s.extract 7 s.size)) = c
  generalize groupL (L (s.extract 6 s.size)) = d
  intro h7 h6
  cases a <;> cases b <;> cases c <;> cases d <;> simp_all

set_option maxHeartbeats 4000000 in
theorem rOf_any (s : ByteArray) (w : World) (hs : s.size ≤ 9223372036854775807) : Calls Try.prog 110 #[.string s] w fun e w' => e = .returned (.string (ofB s)) ∧ w = w' := by
  have z7 : (s.extract 7 s.size).size ≤ 9223372036854775807 := by rw [ByteArray.size_extract]; omega
  have z6 : (s.extract 6 s.size).size ≤ 9223372036854775807 := by rw [ByteArray.size_extract]; omega
  have HO : Hid ((Lib.hasPrefix (L s) (L ⟨#[37, 114, 101, 116, 114, 121, 37]⟩) = true ∧ 7 ≤ s.size ∧ groupL (L (s.extract 7 s.size)) = true → s.extract 7 s.size = ofB s) ∧ (((Lib.hasPrefix (L s) (L ⟨#[37, 114, 101, 116, 114, 121, 37]⟩) = false ∨ groupL (L (s.extract 7 s.size)) = false) ∧ Lib.hasPrefix (L s) (L ⟨#[37, 100, 101, 97, 100, 37]⟩) = true ∧ groupL (L (s.extract 6 s.size)) = true) → s.extract 6 s.size = ofB s) ∧
      ((Lib.hasPrefix (L s) (L ⟨#[37, 114, 101, 116, 114, 121, 37]⟩) = false ∨ groupL (L (s.extract 7 s.size)) = false) ∧ (Lib.hasPrefix (L s) (L ⟨#[37, 100, 101, 97, 100, 37]⟩) = false ∨ groupL (L (s.extract 6 s.size)) = false) → ⟨#[]⟩ = ofB s)) :=
    ⟨fun h => ofB_retry h.1 h.2.2, fun h => ofB_dead h.1 h.2.1 h.2.2, fun h => ofB_no h.1 h.2⟩
  rcases of_ways s with ⟨hR, h7, hG⟩ | ⟨⟨hR, h7, hG⟩ | hR, ⟨hD, h6, hH⟩ | ⟨hD, h6, hH⟩ | hD⟩
  all_goals
    go_enter Try.func110, Try.ntmps110
    go_wp2_with (first | (go_at_call 130; refine (has_any _ _ _ hs).mono ?_; rintro e w' ⟨rfl, rfl⟩) | (go_at_call 23; refine (rGroup_any _ _ (by with_reducible first | exact z7 | exact z6)).mono ?_; rintro e w' ⟨rfl, rfl⟩))
    go_ret
    obtain ⟨O1, O2, O3⟩ := HO.out
    first
    | exact ⟨ret_str (O1 ⟨hR, h7, hG⟩), rfl⟩
    | exact ⟨ret_str (O2 ⟨by first | exact .inl hR | exact .inr hG, hD, hH⟩), rfl⟩
    | exact ⟨ret_str (O3 ⟨by first | exact .inl hR | exact .inr hG, by first | exact .inl hD | exact .inr hH⟩), rfl⟩

theorem ofB_empty (s : ByteArray) : (!(ofB s).toList.isEmpty) = (ofL (L s)).isSome := by
  rw [L_empty]; unfold ofB; rw [B_size]
  cases h : ofL (L s) with
  | none => simp
  | some g => have := group_pos (of_pos h); simp [this]

set_option maxHeartbeats 1000000 in
theorem rTopic_any (s : ByteArray) (w : World) (hs : s.size ≤ 9223372036854775807) : Calls Try.prog 75 #[.string s] w fun e w' => e = .returned (.bool (topicL (L s))) ∧ w = w' := by
  have HE := Lib.hid (ofB_empty s)
  go_enter Try.func75, Try.ntmps75
  go_wp2_with (first | (go_at_call 48; refine (rPlain_any _ _ hs).mono ?_; rintro e w' ⟨rfl, rfl⟩) | (go_at_call 110; refine (rOf_any _ _ hs).mono ?_; rintro e w' ⟨rfl, rfl⟩))
  all_goals
    go_ret
    exact ⟨ret_bool (by have := HE.out; unfold topicL; simp_all), rfl⟩

set_option maxHeartbeats 1000000 in
theorem rTag_any (s : ByteArray) (w : World) (hs : s.size ≤ 9223372036854775807) : Calls Try.prog 76 #[.string s] w fun e w' => e = .returned (.bool (tagL (L s))) ∧ w = w' := by
  go_enter Try.func76, Try.ntmps76
  go_wp2_with (first | (go_at_call 48; refine (rPlain_any _ _ hs).mono ?_; rintro e w' ⟨rfl, rfl⟩))
  all_goals
    go_ret
    exact ⟨ret_bool (by unfold tagL; rw [← L_of]; (try simp_all)), rfl⟩

set_option maxHeartbeats 1000000 in
theorem tag_any (s : ByteArray) (w : World) : Calls Try.prog 106 #[.string s] w fun e w' => e = .returned (.bool (tagL (L s))) ∧ Below w.heap.size w w' := by
  go_enter Try.func106, Try.ntmps106
  go_wp2_with (first | (go_at_call 71; refine (plain_any _ _).mono ?_; rintro e w' ⟨rfl, hb⟩))
  all_goals
    go_ret
    exact ⟨ret_bool (by unfold tagL; rw [← L_of]; (try simp_all)), by first | exact Below.refl _ _ | exact hb⟩

/-- A topic of the broker's own, for a group. -/
def ownB (h g : ByteArray) : ByteArray := if groupL (L g) = true then h ++ g else ⟨#[]⟩
theorem ownB_yes {h g : ByteArray} (e : groupL (L g) = true) : h ++ g = ownB h g := by unfold ownB; rw [if_pos e]
theorem ownB_no {h g : ByteArray} (e : groupL (L g) = false) : ⟨#[]⟩ = ownB h g := by unfold ownB; rw [if_neg (by simp [e])]

set_option maxHeartbeats 1000000 in
theorem own_any (h g : ByteArray) (w : World) (hz : h.size + g.size ≤ 9223372036854775807) : Calls Try.prog 74 #[.string h, .string g] w fun e w' => e = .returned (.string (ownB h g)) ∧ Below w.heap.size w w' := by
  rcases Bool.eq_false_or_eq_true (groupL (L g)) with hG | hG
  · have HO := Lib.hid (ownB_yes (h := h) hG)
    go_enter Try.func74, Try.ntmps74
    go_wp2_with (first | (go_at_call 43; refine (group_any _ _).mono ?_; rintro e w' ⟨rfl, hb⟩))
    go_ret
    exact ⟨ret_str HO.out, hb⟩
  · have HO := Lib.hid (ownB_no (h := h) hG)
    go_enter Try.func74, Try.ntmps74
    go_wp2_with (first | (go_at_call 43; refine (group_any _ _).mono ?_; rintro e w' ⟨rfl, hb⟩))
    go_ret
    exact ⟨ret_str HO.out, hb⟩

set_option maxHeartbeats 1000000 in
theorem retry_any (g : ByteArray) (w : World) (hz : 7 + g.size ≤ 9223372036854775807) : Calls Try.prog 47 #[.string g] w fun e w' => e = .returned (.string (ownB (B retryL) g)) ∧ Below w.heap.size w w' := by
  have hC := own_any (B retryL) g w hz
  change Calls _ _ #[.string ⟨#[37, 114, 101, 116, 114, 121, 37]⟩, _] _ _ at hC
  go_enter Try.func47, Try.ntmps47
  go_wp2_with (first | (go_at_call 74; refine hC.mono ?_; rintro e w' ⟨rfl, hb⟩))
  go_ret
  exact ⟨rfl, hb⟩

set_option maxHeartbeats 1000000 in
theorem dead_any (g : ByteArray) (w : World) (hz : 6 + g.size ≤ 9223372036854775807) : Calls Try.prog 46 #[.string g] w fun e w' => e = .returned (.string (ownB (B deadL) g)) ∧ Below w.heap.size w w' := by
  have hC := own_any (B deadL) g w hz
  change Calls _ _ #[.string ⟨#[37, 100, 101, 97, 100, 37]⟩, _] _ _ at hC
  go_enter Try.func46, Try.ntmps46
  go_wp2_with (first | (go_at_call 74; refine hC.mono ?_; rintro e w' ⟨rfl, hb⟩))
  go_ret
  exact ⟨rfl, hb⟩

end Go.Proofs.Ytnlpohcnlmdocaa
