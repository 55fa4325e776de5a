/- Texts of filters: (*tag.Filter).Text, tag.Parse; what is read is written back. -/
import Derived.Test.YtnlpohcnlmdocaaDoorTag
import Derived.Lib.SplitLaws
import Derived.Lib.IndexMore
import Derived.Lib.Join
namespace Go.Proofs.YtnlpohcnlmdocaaDoor
open Go.RowKit Go.Shelf
set_option linter.unusedSimpArgs false
set_option linter.unusedVariables false

def orB : ByteArray := ⟨#[32, 124, 124, 32]⟩
def tagsOf (s : ByteArray) : List ByteArray := Lib.splitB orB 0 (Lib.countB s orB) s
def joinB (l : List ByteArray) : ByteArray := ⟨(Lib.join (l.map (·.data.toList)) orB.data.toList).toArray⟩

theorem hit_list {s sub : List UInt8} {i : Nat} (h : Lib.index s sub = i) : s = s.take i ++ (sub ++ s.drop (i + sub.length)) := by
  rcases Lib.index_spec s sub with ⟨h1, _⟩ | ⟨k, h1, hk, hocc, _⟩
  · rw [h] at h1; omega
  · obtain rfl : i = k := by rw [h] at h1; omega
    unfold Lib.occAt at hocc
    obtain ⟨t, ht⟩ := List.isPrefixOf_iff_prefix.1 hocc
    have h2 : s.drop (i + sub.length) = t := by
      rw [← List.drop_drop, ← ht, List.drop_left]
    rw [h2, ht, List.take_append_drop]
theorem splitB_ne (sep : ByteArray) (save : Nat) : ∀ (k : Nat) (s : ByteArray), ∃ y r, Lib.splitB sep save k s = y :: r
  | 0, s => ⟨s, [], rfl⟩
  | k + 1, s => by
    rcases Lib.indexB_cases s sep with h | ⟨i, h, _⟩
    · exact ⟨s, [], Lib.splitB_miss sep save (k + 1) s h⟩
    · exact ⟨_, _, Lib.splitB_hit sep save k s i h⟩
theorem join_split (sep : ByteArray) : ∀ (k : Nat) (s : ByteArray), Lib.join ((Lib.splitB sep 0 k s).map (·.data.toList)) sep.data.toList = s.data.toList
  | 0, s => by rw [Lib.splitB_zero]; exact Lib.join_one _ _
  | k + 1, s => by
    rcases Lib.indexB_cases s sep with h | ⟨i, h, hr⟩
    · rw [Lib.splitB_miss sep 0 (k + 1) s h]; exact Lib.join_one _ _
    · rw [Lib.splitB_hit sep 0 k s i h]
      have ih := join_split sep k (s.extract (i + sep.size) s.size)
      obtain ⟨y, r, e⟩ := splitB_ne sep 0 k (s.extract (i + sep.size) s.size)
      rw [e, List.map_cons, Lib.join_cons] at ih
      rw [e, List.map_cons, List.map_cons, Lib.join_cons]
      have hj : Lib.joinTail sep.data.toList (y.data.toList :: r.map (·.data.toList)) = sep.data.toList ++ (y.data.toList ++ Lib.joinTail sep.data.toList (r.map (·.data.toList))) := by
        unfold Lib.joinTail; simp
      rw [hj, ih]
      have hh := hit_list (s := s.data.toList) (sub := sep.data.toList) h
      have e1 : (s.extract 0 (i + 0)).data.toList = s.data.toList.take i := by simp [ByteArray.data_extract]
      have e2 : (s.extract (i + sep.size) s.size).data.toList = s.data.toList.drop (i + sep.data.toList.length) := by
        have : sep.data.toList.length = sep.size := rfl
        have h3 : s.data.toList.length = s.size := rfl
        rw [this, ByteArray.data_extract, Array.toList_extract]
        unfold List.extract
        rw [List.take_of_length_le]
        rw [List.length_drop, h3]
        exact Nat.le_refl _
      rw [e1, e2, ← hh]
theorem join_tags (s : ByteArray) : joinB (tagsOf s) = s := by
  unfold joinB tagsOf
  rw [join_split]

/-- A filter's text. -/
def textB (l : List ByteArray) : ByteArray := if l = [] then ⟨#[42]⟩ else joinB l
theorem textB_nil : (⟨#[42]⟩ : ByteArray) = textB [] := by unfold textB; rw [if_pos rfl]
theorem textB_some {l : List ByteArray} (h : l ≠ []) : joinB l = textB l := by unfold textB; rw [if_neg h]

set_option maxHeartbeats 2000000 in
theorem textNil_any (w : World) :
    Calls Tryd.prog 10 #[.pointer none] w fun e w' => e = .returned (.string ⟨#[]⟩) ∧ w = w' := by
  go_enter Tryd.func10, Tryd.ntmps10
  go_wp2
  go_ret
  exact ⟨rfl, rfl⟩
set_option maxHeartbeats 2000000 in
theorem text_any (g : Nat) (l : List ByteArray) (w : World) (hF : Filt w g l) (hn : l.length ≤ 140737488355328) (hj : (Lib.join (l.map (·.data.toList)) orB.data.toList).length ≤ 140737488355328) :
    Calls Tryd.prog 10 #[.pointer (some ⟨g, 0, none⟩)] w fun e w' => e = .returned (.string (textB l)) ∧ Below w.heap.size w w' := by
  obtain ⟨A, c, hB, hS, hcc⟩ := hF
  have c0 := hB.cell
  by_cases hl : l = []
  · subst hl
    have HT := Lib.hid textB_nil
    have d0 : (((([] : List ByteArray).length : Nat) : Int) == 0) = true := rfl
    go_enter Tryd.func10, Tryd.ntmps10
    go_wp2
    go_ret
    exact ⟨ret_str HT.out, Below.refl _ _⟩
  · obtain ⟨b, o, rfl, hc⟩ := hS hl
    have hlen : 0 < l.length := List.length_pos_iff.2 hl
    have d0 : ((l.length : Int) == 0) = false := by rw [beq_eq_false_iff_ne]; omega
    have HT := Lib.hid (textB_some hl)
    have hb : b < w.heap.size := cell_lt (hc 0 hlen)
    have hJ := Lib.hid (Tryd.strings_Join b o c l orB w (fun j x hx => by
      obtain ⟨hj, e⟩ := List.getElem?_eq_some_iff.1 hx
      rw [hc j hj, e]) hb hn hcc hj)
    clear hc hl
    go_enter Tryd.func10, Tryd.ntmps10
    go_wp2_with fail
    refine hJ.out.mono ?_
    rintro e w1 ⟨rfl, hb1⟩
    go_wp2
    go_ret
    exact ⟨ret_str HT.out, hb1⟩

theorem tags_len (s : ByteArray) : (tagsOf s).length = Lib.countB s orB + 1 := Lib.splitB_all orB (by decide) 0 _ s rfl
theorem strs_new (l : List ByteArray) (w : World) : Strs (w.alloc (.cells (l.map Value.string).toArray 9)) (some ⟨w.heap.size, 0, none⟩) l := fun hl =>
  ⟨w.heap.size, 0, rfl, fun j hj => by
    rw [Nat.zero_add, (Blk.new w 9 (l.map Value.string).toArray).cell j]
    simp [hj]⟩

/-- What Parse hands back of a text that is not '*'. -/
def ParseIs (l : List ByteArray) (e : Ending) (w' : World) : Prop :=
  (errT l ≠ 0 ∧ e = .returned (.tuple #[.pointer none, .int .i64 4])) ∨ (errT l = 0 ∧ ∃ g, e = .returned (.tuple #[.pointer (some ⟨g, 0, none⟩), .int .i64 0]) ∧ Filt w' g l)
set_option maxHeartbeats 2000000 in
theorem parseStar_any (w : World) :
    Calls Tryd.prog 9 #[.string ⟨#[42]⟩] w fun e w' => (∃ g, e = .returned (.tuple #[.pointer (some ⟨g, 0, none⟩), .int .i64 0]) ∧ Filt w' g []) ∧ Below w.heap.size w w' := by
  have hN := newT_any none 0 [] w (fun h => absurd rfl h) (by simp)
  go_enter Tryd.func9, Tryd.ntmps9
  go_wp2_with fail
  refine (show Calls _ _ #[.slice none 0 0] _ _ from hN).mono ?_
  rintro e w1 ⟨h | ⟨_, g, rfl, hF⟩, hb⟩
  · exact absurd (show errT [] = 0 by decide) h.1
  go_wp2
  go_ret2
  exact ⟨⟨g, rfl, hF⟩, hb⟩
set_option maxHeartbeats 2000000 in
theorem parse_any (s : ByteArray) (m : Int) (w : World) (hs : (s.toList == [42]) = false) (hz : s.size < 4294967281) (hm : w.cell? ⟨0, 0, none⟩ = some (.int .i64 m)) :
    Calls Tryd.prog 9 #[.string s] w fun e w' => ParseIs (tagsOf s) e w' ∧ Below w.heap.size w w' := by
  have hle := Lib.countB_le orB (by decide) s.size s (Nat.le_refl _)
  have hS := Lib.hid (Tryd.strings_Split s orB m w hz hm (by decide))
  have hN := newT_any (some ⟨w.heap.size, 0, none⟩) (Lib.countB s orB + 1) (tagsOf s) (w.alloc (.cells ((tagsOf s).map Value.string).toArray 9)) (strs_new _ _) (by rw [tags_len]; omega)
  rw [tags_len] at hN
  have HN := Lib.hid hN
  clear hN hm
  go_enter Tryd.func9, Tryd.ntmps9
  go_wp2_with fail
  refine hS.out.mono ?_
  rintro e w1 ⟨rfl, rfl⟩
  go_wp2_with fail
  refine HN.out.mono ?_
  rintro e w2 ⟨h, hb⟩
  have hbb := bstep (balloc (Below.refl w.heap.size w)) hb
  rcases h with ⟨h0, rfl⟩ | ⟨h0, g, rfl, hF⟩
  · obtain ⟨k, hk⟩ : ∃ k, errT (tagsOf s) = k := ⟨_, rfl⟩
    have hkb : (k != 0) = true := by rw [bne_iff_ne, ← hk]; exact h0
    have hkc : (k == 0) = false := by rw [beq_eq_false_iff_ne, ← hk]; exact h0
    rw [hk]
    have H0 := Lib.hid h0
    clear h0 hk
    go_wp2
    go_ret2
    exact ⟨.inl ⟨H0.out, rfl⟩, hbb⟩
  · have H0 := Lib.hid h0
    clear h0
    go_wp2
    go_ret2
    exact ⟨.inr ⟨H0.out, g, rfl, hF⟩, hbb⟩

end Go.Proofs.YtnlpohcnlmdocaaDoor
