/- Filters of tags: tag.New, (*tag.Filter).any, Wants. -/
import Derived.Test.YtnlpohcnlmdocaaDoorUnlike
import Derived.Test.YtnlpohcnlmdocaaDoorCopy
import Derived.Test.YtnlpohcnlmdocaaDoorEv
namespace Go.Proofs.YtnlpohcnlmdocaaDoor
open Go.RowKit Go.Shelf
set_option linter.unusedSimpArgs false
set_option linter.unusedVariables false

/-- Why these are no filter's tags; 0: they are. -/
def errT (l : List ByteArray) : Int := if allB (fun s => plainL (L s)) l = false then 11 else if l.Nodup then (if 4 < l.length then 6 else 0) else 10
/-- A filter in memory. -/
def Filt (w : World) (g : Nat) (l : List ByteArray) : Prop := ∃ A c, Blk w g 42 #[.slice A l.length c] ∧ Strs w A l ∧ l.length ≤ c
theorem Filt.below {w w' : World} {g : Nat} {l : List ByteArray} (h : Filt w g l) (hb : Below w.heap.size w w') : Filt w' g l := by
  obtain ⟨A, c, h1, h2, h3⟩ := h
  exact ⟨A, c, h1.later hb, h2.below hb, h3⟩
theorem Filt.lt {w : World} {g : Nat} {l : List ByteArray} (h : Filt w g l) : g < w.heap.size := by obtain ⟨A, c, h1, _⟩ := h; exact h1.lt

theorem compLen_le (l : List ByteArray) : compLen l ≤ l.length := by
  unfold compLen Lib.compact Lib.compactUpTo
  rw [List.length_map]
  have := List.length_filter_le (Lib.keeps (sortedL l).toArray) (List.range (sortedL l).length)
  rw [List.length_range, sortedL_len] at this
  rw [sortedL_len]; exact this
theorem comp_nodup {l : List ByteArray} : decide (compLen l < l.length) = !decide l.Nodup := by
  have h := compact_sorted l
  have h2 := compLen_le l
  unfold compLen at *
  by_cases hd : l.Nodup
  · rw [decide_eq_true hd] at h ⊢
    have := of_decide_eq_true h
    simp; omega
  · rw [decide_eq_false hd] at h ⊢
    have := of_decide_eq_false h
    simp; omega

/-- What New hands back. -/
def NewIs (l : List ByteArray) (e : Ending) (w' : World) : Prop :=
  (errT l ≠ 0 ∧ e = .returned (.tuple #[.pointer none, .int .i64 (errT l)])) ∨ (errT l = 0 ∧ ∃ g, e = .returned (.tuple #[.pointer (some ⟨g, 0, none⟩), .int .i64 0]) ∧ Filt w' g l)
theorem new_bad {l : List ByteArray} {k : Int} {w' : World} (h : errT l = k) (hk : k ≠ 0) : NewIs l (.returned (.tuple #[.pointer none, .int .i64 k])) w' := .inl ⟨by rw [h]; exact hk, by rw [h]⟩

set_option maxHeartbeats 2000000 in
theorem newT_any (A : Option Addr) (c : Nat) (l : List ByteArray) (w : World) (hl : Strs w A l) (hn : l.length * 16 ≤ 140737488355328) :
    Calls Tryd.prog 6 #[.slice A l.length c] w fun e w' => NewIs l e w' ∧ Below w.heap.size w w' := by
  have HL := Lib.hid hl
  clear hl
  rcases Bool.eq_false_or_eq_true (allB (fun s => plainL (L s)) l) with h1 | h1
  rotate_left
  · have HE := Lib.hid (show errT l = 11 by unfold errT; rw [if_pos h1])
    go_enter Tryd.func6, Tryd.ntmps6
    go_wp2_with (first
      | (go_at_call 12; refine (allPlain_any A c l _ HL.out (by omega)).mono ?_; rintro e w1 ⟨rfl, hb1⟩))
    go_ret2
    exact ⟨new_bad HE.out (by decide), hb1⟩
  rcases Bool.eq_false_or_eq_true (decide (compLen l < l.length)) with h2 | h2
  · have HE := Lib.hid (show errT l = 10 by
      unfold errT; rw [if_neg (by simp [h1]), if_neg]
      intro hd; rw [comp_nodup, decide_eq_true hd] at h2; cases h2)
    go_enter Tryd.func6, Tryd.ntmps6
    go_wp2_with (first
      | (go_at_call 12; refine (allPlain_any A c l _ HL.out (by omega)).mono ?_; rintro e w1 ⟨rfl, hb1⟩)
      | (go_at_call 15; refine (values_any _ _ _ _).mono ?_; rintro e w2 ⟨rfl, rfl⟩)
      | (go_at_call 14; refine (sorted_any A c l w1 (HL.out.below hb1) hn).mono ?_; rintro e w3 ⟨v, rfl, hrow, hnil, hb⟩; have HN := Lib.hid hnil; clear hnil)
      | (go_at_call 16; refine (compact_any _ _ _ _ hrow (by omega)).mono ?_; rintro e w4 ⟨⟨a4, c4, rfl⟩, hb2⟩))
    have hbb : Below w.heap.size w w4 := (bstep (balloc hb1) hb).trans (hb2.mono (by have := hb1.size; omega))
    go_ret2
    exact ⟨new_bad HE.out (by decide), hbb⟩
  have hnd : l.Nodup := by
    rw [comp_nodup] at h2
    by_cases hd : l.Nodup
    · exact hd
    · rw [decide_eq_false hd] at h2; cases h2
  rcases Bool.eq_false_or_eq_true (decide ((4 : Int) < (l.length : Int))) with h3 | h3
  · have HE := Lib.hid (show errT l = 6 by
      have : 4 < l.length := by have := of_decide_eq_true h3; omega
      unfold errT; rw [if_neg (by simp [h1]), if_pos hnd, if_pos this])
    clear hnd
    go_enter Tryd.func6, Tryd.ntmps6
    go_wp2_with (first
      | (go_at_call 12; refine (allPlain_any A c l _ HL.out (by omega)).mono ?_; rintro e w1 ⟨rfl, hb1⟩)
      | (go_at_call 15; refine (values_any _ _ _ _).mono ?_; rintro e w2 ⟨rfl, rfl⟩)
      | (go_at_call 14; refine (sorted_any A c l w1 (HL.out.below hb1) hn).mono ?_; rintro e w3 ⟨v, rfl, hrow, hnil, hb⟩; have HN := Lib.hid hnil; clear hnil)
      | (go_at_call 16; refine (compact_any _ _ _ _ hrow (by omega)).mono ?_; rintro e w4 ⟨⟨a4, c4, rfl⟩, hb2⟩))
    have hbb : Below w.heap.size w w4 := (bstep (balloc hb1) hb).trans (hb2.mono (by have := hb1.size; omega))
    go_ret2
    exact ⟨new_bad HE.out (by decide), hbb⟩
  · have HE := Lib.hid (show errT l = 0 by
      have : ¬ 4 < l.length := by have := of_decide_eq_false h3; omega
      unfold errT; rw [if_neg (by simp [h1]), if_pos hnd, if_neg this])
    clear hnd
    go_enter Tryd.func6, Tryd.ntmps6
    go_wp2_with (first
      | (go_at_call 12; refine (allPlain_any A c l _ HL.out (by omega)).mono ?_; rintro e w1 ⟨rfl, hb1⟩)
      | (go_at_call 15; refine (values_any _ _ _ _).mono ?_; rintro e w2 ⟨rfl, rfl⟩)
      | (go_at_call 14; refine (sorted_any A c l w1 (HL.out.below hb1) hn).mono ?_; rintro e w3 ⟨v, rfl, hrow, hnil, hb⟩; have HN := Lib.hid hnil; clear hnil)
      | (go_at_call 16; refine (compact_any _ _ _ _ hrow (by omega)).mono ?_; rintro e w4 ⟨⟨a4, c4, rfl⟩, hb2⟩; have hbb : Below w.heap.size w w4 := (bstep (balloc hb1) hb).trans (hb2.mono (by have := hb1.size; omega)))
      | (go_at_call 17; refine (clone_any A c l w4 (HL.out.below hbb) hn).mono ?_; rintro e w5 ⟨⟨v, rfl, A5, c5, rfl, hcc, hown⟩, hb5⟩))
    go_ret2
    have HS := Strs.of_row hown
    exact ⟨.inr ⟨HE.out, _, rfl, A5, c5, Blk.new _ _ _, HS.below (balloc (Below.refl _ _)), hcc⟩, balloc (bstep hbb hb5)⟩

theorem eqAt (t : ByteArray) (b : Nat) (w : World) (hb : b < w.heap.size) (hc : w.cell? ⟨b, 0, none⟩ = some (.string t)) :
    PredAt Tryd.prog 19 #[.pointer (some ⟨b, 0, none⟩)] Value.string (fun x : ByteArray => x.toList == t.toList) w := fun W x hB => by
  have hc' : W.cell? ⟨b, 0, none⟩ = some (.string t) := (hB.cell (p := ⟨b, 0, none⟩) hb).trans hc
  unfold FnGives
  show Calls _ _ #[.string x, .pointer (some ⟨b, 0, none⟩)] _ _
  go_enter Tryd.func19, Tryd.ntmps19
  go_wp2
  go_ret
  exact ⟨rfl, 0, rfl⟩

/-- Is something so of one of the tags, or all wanted? -/
def anyT (p : ByteArray → Bool) (l : List ByteArray) : Bool := l.isEmpty || l.any p
set_option maxHeartbeats 2000000 in
theorem anyNil_any (fv : Value) (w : World) :
    Calls Tryd.prog 18 #[.pointer none, fv] w fun e w' => e = .returned (.bool false) ∧ w = w' := by
  go_enter Tryd.func18, Tryd.ntmps18
  go_wp2
  go_ret
  exact ⟨rfl, rfl⟩
set_option maxHeartbeats 2000000 in
theorem anyT_any (fid : FuncId) (lb : Array Value) (eg : ∀ args w, (callFunc fid args).run Tryd.prog w = .ok (.enter fid args) w) (p : ByteArray → Bool) (g : Nat) (l : List ByteArray) (w : World) (hF : Filt w g l) (hn : l.length ≤ 9223372036854775806) (hp : PredAt Tryd.prog fid lb Value.string p w) :
    Calls Tryd.prog 18 #[.pointer (some ⟨g, 0, none⟩), .func (.func fid) #[] lb] w fun e w' => e = .returned (.bool (anyT p l)) ∧ Below w.heap.size w w' := by
  obtain ⟨A, c, hB, hS, hcc⟩ := hF
  have c0 := hB.cell
  by_cases hl : l = []
  · subst hl
    have d0 : (((([] : List ByteArray).length : Nat) : Int) == 0) = true := rfl
    go_enter Tryd.func18, Tryd.ntmps18
    go_wp2
    go_ret
    exact ⟨rfl, Below.refl _ _⟩
  · obtain ⟨b, o, rfl, hc⟩ := hS hl
    have hlen : 0 < l.length := List.length_pos_iff.2 hl
    have d0 : ((l.length : Int) == 0) = false := by rw [beq_eq_false_iff_ne]; omega
    have HP := Lib.hid (show l.any p = anyT p l by unfold anyT; cases l with | nil => exact absurd rfl hl | cons _ _ => rfl)
    have hC := Lib.hid (Tryd.slices_ContainsFunc Value.string p fid lb eg b o l.length c l w hp (Nat.le_refl _) (by omega) (fun j hj => by rw [hc j hj, getElem!_pos l j hj]))
    clear hc hp
    go_enter Tryd.func18, Tryd.ntmps18
    go_wp2_with (go_at_call 30; refine hC.out.mono ?_; rintro e w1 ⟨rfl, q, rfl⟩)
    go_ret
    exact ⟨ret_bool HP.out, bdrewN (Below.refl _ _)⟩

def wantsL (l : List ByteArray) (t : ByteArray) : Bool := anyT (fun x => x.toList == t.toList) l
set_option maxHeartbeats 2000000 in
theorem wants_any (g : Nat) (l : List ByteArray) (t : ByteArray) (w : World) (hF : Filt w g l) (hn : l.length ≤ 9223372036854775806) :
    Calls Tryd.prog 7 #[.pointer (some ⟨g, 0, none⟩), .string t] w fun e w' => e = .returned (.bool (wantsL l t)) ∧ Below w.heap.size w w' := by
  have HA := Lib.hid (anyT_any 19 #[.pointer (some ⟨w.heap.size, 0, none⟩)] (enters_of Tryd.func19 (by kernel_rfl) rfl) (fun x => x.toList == t.toList) g l (w.alloc (.cells #[.string t] 9)) (hF.below (balloc (Below.refl _ _))) hn (eqAt t w.heap.size _ (by simp) (by simp)))
  go_enter Tryd.func7, Tryd.ntmps7
  go_wp2_with (go_at_call 18; refine HA.out.mono ?_; rintro e w1 ⟨rfl, hb⟩)
  go_ret
  exact ⟨rfl, bstep (balloc (Below.refl _ _)) hb⟩
set_option maxHeartbeats 2000000 in
theorem wantsNil_any (t : ByteArray) (w : World) :
    Calls Tryd.prog 7 #[.pointer none, .string t] w fun e w' => e = .returned (.bool false) ∧ Below w.heap.size w w' := by
  go_enter Tryd.func7, Tryd.ntmps7
  go_wp2_with (go_at_call 18; refine (anyNil_any _ _).mono ?_; rintro e w1 ⟨rfl, rfl⟩)
  go_ret
  exact ⟨rfl, balloc (Below.refl _ _)⟩
set_option maxHeartbeats 2000000 in
theorem quickNil_any (h : Int) (w : World) :
    Calls Tryd.prog 8 #[.pointer none, .int .i64 h] w fun e w' => e = .returned (.bool false) ∧ Below w.heap.size w w' := by
  go_enter Tryd.func8, Tryd.ntmps8
  go_wp2_with (go_at_call 18; refine (anyNil_any _ _).mono ?_; rintro e w1 ⟨rfl, rfl⟩)
  go_ret
  exact ⟨rfl, balloc (Below.refl _ _)⟩

end Go.Proofs.YtnlpohcnlmdocaaDoor
