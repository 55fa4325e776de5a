/- What is still to come: Note. -/
import Derived.Test.YtnlpohcnlmdocaaPend1
namespace Go.Proofs.Ytnlpohcnlmdocaa
open Go.RowKit Go.Shelf Go.Maps
set_option linter.unusedSimpArgs false
set_option linter.unusedVariables false

/-- What a note makes of the map, where it does anything. -/
def noteN (D : DataW Unit) (id kind due ref : Int) : Option (DataW Unit) :=
  if id < 0 then none else if kind = 3 then (if (st D ref).1 = 1 then some (D.put (.int .i64 ref) (oneD (2, 0))) else none)
  else if kind = 4 then (if (st D ref).1 = 1 then some (D.put (.int .i64 ref) (oneD (3, 0))) else none)
  else if kind = 2 then (if st D id = (0, 0) then some (D.put (.int .i64 id) (oneD (1, due))) else none) else none

theorem PSet.mono {w : World} {g b n n' : Nat} {D : DataW Unit} (h : PSet w g b n D) (hn : n ≤ n') : PSet w g b n' D := ⟨h.blk, h.own.mono hn, h.ne⟩
def NotePost (g b n : Nat) (D : DataW Unit) (o : Option (DataW Unit)) (w : World) (e : Ending) (w' : World) : Prop :=
  e = .returned (.bool o.isSome) ∧ PSet w' g b (n + 1) (o.getD D) ∧ w.grownBy w' (some b)
theorem note_none {g b n : Nat} {D : DataW Unit} {o : Option (DataW Unit)} {w w' : World} (ho : o = none) (hP : PSet w' g b n D) (hg : w.grownBy w' (some b)) : NotePost g b n D o w (.returned (.bool false)) w' := by
  subst ho; exact ⟨rfl, hP.mono (by omega), hg⟩
theorem note_some {g b n : Nat} {D D' : DataW Unit} {o : Option (DataW Unit)} {w w' : World} (ho : o = some D') (hP : PSet w' g b (n + 1) D') (hg : w.grownBy w' (some b)) : NotePost g b n D o w (.returned (.bool true)) w' := by
  subst ho; exact ⟨rfl, hP, hg⟩


set_option maxRecDepth 100000 in
set_option maxHeartbeats 4000000 in
theorem note_neg (g b n : Nat) (D : DataW Unit) (id kind due ref : Int) (w : World) (hP : PSet w g b n D) (hn : n < 9223372036854775807) (hw : (Lit.int .i64 id).wf = true) (hr : (Lit.int .i64 ref).wf = true) (h1 : decide (id < 0) = true) :
    Calls Try.prog 16 #[.pointer (some ⟨g, 0, none⟩), .int .i64 id, .agg #[.int .i64 kind, .int .i64 0, .int .i64 due, .int .i64 0, .int .i64 ref, .int .i64 0, .string ⟨#[]⟩, .string ⟨#[]⟩, .string ⟨#[]⟩, .slice none 0 0]] w (NotePost g b n D (noteN D id kind due ref) w) := by
  have HG0 := Lib.hid (World.grownBy_alloc w (.cells #[.int .i64 kind, .int .i64 0, .int .i64 due, .int .i64 0, .int .i64 ref, .int .i64 0, .string ⟨#[]⟩, .string ⟨#[]⟩, .string ⟨#[]⟩, .slice none 0 0] 39) (some b))
  have HP0 := Lib.hid (hP.kept (balloc (o := .cells #[.int .i64 kind, .int .i64 0, .int .i64 due, .int .i64 0, .int .i64 ref, .int .i64 0, .string ⟨#[]⟩, .string ⟨#[]⟩, .string ⟨#[]⟩, .slice none 0 0] 39) (Below.refl _ _)))
  have bm0 := Lib.hid (Blk.new w 39 #[.int .i64 kind, .int .i64 0, .int .i64 due, .int .i64 0, .int .i64 ref, .int .i64 0, .string ⟨#[]⟩, .string ⟨#[]⟩, .string ⟨#[]⟩, .slice none 0 0])
  have cm := bm0.out.cell
  have HN := Lib.hid (show noteN D id kind due ref = none by unfold noteN; rw [if_pos (of_decide_eq_true h1)])
  clear hP
  go_enter Try.func16, Try.ntmps16
  go_wp2
  go_ret
  exact note_none HN.out HP0.out HG0.out

set_option maxRecDepth 100000 in
set_option maxHeartbeats 4000000 in
theorem note_3n (g b n : Nat) (D : DataW Unit) (id kind due ref : Int) (w : World) (hP : PSet w g b n D) (hn : n < 9223372036854775807) (hw : (Lit.int .i64 id).wf = true) (hr : (Lit.int .i64 ref).wf = true) (h1 : decide (id < 0) = false) (h2 : (kind == 3) = true) (h5 : ((st D ref).1 != 1) = true) :
    Calls Try.prog 16 #[.pointer (some ⟨g, 0, none⟩), .int .i64 id, .agg #[.int .i64 kind, .int .i64 0, .int .i64 due, .int .i64 0, .int .i64 ref, .int .i64 0, .string ⟨#[]⟩, .string ⟨#[]⟩, .string ⟨#[]⟩, .slice none 0 0]] w (NotePost g b n D (noteN D id kind due ref) w) := by
  have HG0 := Lib.hid (World.grownBy_alloc w (.cells #[.int .i64 kind, .int .i64 0, .int .i64 due, .int .i64 0, .int .i64 ref, .int .i64 0, .string ⟨#[]⟩, .string ⟨#[]⟩, .string ⟨#[]⟩, .slice none 0 0] 39) (some b))
  have HP0 := Lib.hid (hP.kept (balloc (o := .cells #[.int .i64 kind, .int .i64 0, .int .i64 due, .int .i64 0, .int .i64 ref, .int .i64 0, .string ⟨#[]⟩, .string ⟨#[]⟩, .string ⟨#[]⟩, .slice none 0 0] 39) (Below.refl _ _)))
  have bm0 := Lib.hid (Blk.new w 39 #[.int .i64 kind, .int .i64 0, .int .i64 due, .int .i64 0, .int .i64 ref, .int .i64 0, .string ⟨#[]⟩, .string ⟨#[]⟩, .string ⟨#[]⟩, .slice none 0 0])
  have cm := bm0.out.cell
  have HN := Lib.hid (show noteN D id kind due ref = none by unfold noteN; rw [if_neg (of_decide_eq_false h1)]; rw [if_pos (by simpa using h2), if_neg (by simpa using h5)])
  have hE := Lib.hid (ends_no g b n D ref 2 _ HP0.out hr h5)
  clear hP h5
  go_enter Try.func16, Try.ntmps16
  go_wp2_with (go_at_call 34; refine hE.out.mono ?_; rintro e w' ⟨rfl, rfl⟩)
  go_ret
  exact note_none HN.out HP0.out HG0.out

set_option maxRecDepth 100000 in
set_option maxHeartbeats 4000000 in
theorem note_3y (g b n : Nat) (D : DataW Unit) (id kind due ref : Int) (w : World) (hP : PSet w g b n D) (hn : n < 9223372036854775807) (hw : (Lit.int .i64 id).wf = true) (hr : (Lit.int .i64 ref).wf = true) (h1 : decide (id < 0) = false) (h2 : (kind == 3) = true) (h5 : ((st D ref).1 != 1) = false) :
    Calls Try.prog 16 #[.pointer (some ⟨g, 0, none⟩), .int .i64 id, .agg #[.int .i64 kind, .int .i64 0, .int .i64 due, .int .i64 0, .int .i64 ref, .int .i64 0, .string ⟨#[]⟩, .string ⟨#[]⟩, .string ⟨#[]⟩, .slice none 0 0]] w (NotePost g b n D (noteN D id kind due ref) w) := by
  have HG0 := Lib.hid (World.grownBy_alloc w (.cells #[.int .i64 kind, .int .i64 0, .int .i64 due, .int .i64 0, .int .i64 ref, .int .i64 0, .string ⟨#[]⟩, .string ⟨#[]⟩, .string ⟨#[]⟩, .slice none 0 0] 39) (some b))
  have HP0 := Lib.hid (hP.kept (balloc (o := .cells #[.int .i64 kind, .int .i64 0, .int .i64 due, .int .i64 0, .int .i64 ref, .int .i64 0, .string ⟨#[]⟩, .string ⟨#[]⟩, .string ⟨#[]⟩, .slice none 0 0] 39) (Below.refl _ _)))
  have bm0 := Lib.hid (Blk.new w 39 #[.int .i64 kind, .int .i64 0, .int .i64 due, .int .i64 0, .int .i64 ref, .int .i64 0, .string ⟨#[]⟩, .string ⟨#[]⟩, .string ⟨#[]⟩, .slice none 0 0])
  have cm := bm0.out.cell
  have HN := Lib.hid (show noteN D id kind due ref = some (D.put (.int .i64 ref) (oneD (2, 0))) by unfold noteN; rw [if_neg (of_decide_eq_false h1)]; rw [if_pos (by simpa using h2), if_pos (by simpa using h5)])
  have hE := Lib.hid (ends_yes g b n D ref 2 _ HP0.out hn hr h5)
  clear hP h5
  go_enter Try.func16, Try.ntmps16
  go_wp2_with (go_at_call 34; refine hE.out.mono ?_; rintro e w' ⟨rfl, hP1, hG1⟩)
  go_ret
  exact note_some HN.out hP1 (HG0.out.trans hG1)

set_option maxRecDepth 100000 in
set_option maxHeartbeats 4000000 in
theorem note_4n (g b n : Nat) (D : DataW Unit) (id kind due ref : Int) (w : World) (hP : PSet w g b n D) (hn : n < 9223372036854775807) (hw : (Lit.int .i64 id).wf = true) (hr : (Lit.int .i64 ref).wf = true) (h1 : decide (id < 0) = false) (h3 : (kind == 3) = false) (h2 : (kind == 4) = true) (h5 : ((st D ref).1 != 1) = true) :
    Calls Try.prog 16 #[.pointer (some ⟨g, 0, none⟩), .int .i64 id, .agg #[.int .i64 kind, .int .i64 0, .int .i64 due, .int .i64 0, .int .i64 ref, .int .i64 0, .string ⟨#[]⟩, .string ⟨#[]⟩, .string ⟨#[]⟩, .slice none 0 0]] w (NotePost g b n D (noteN D id kind due ref) w) := by
  have HG0 := Lib.hid (World.grownBy_alloc w (.cells #[.int .i64 kind, .int .i64 0, .int .i64 due, .int .i64 0, .int .i64 ref, .int .i64 0, .string ⟨#[]⟩, .string ⟨#[]⟩, .string ⟨#[]⟩, .slice none 0 0] 39) (some b))
  have HP0 := Lib.hid (hP.kept (balloc (o := .cells #[.int .i64 kind, .int .i64 0, .int .i64 due, .int .i64 0, .int .i64 ref, .int .i64 0, .string ⟨#[]⟩, .string ⟨#[]⟩, .string ⟨#[]⟩, .slice none 0 0] 39) (Below.refl _ _)))
  have bm0 := Lib.hid (Blk.new w 39 #[.int .i64 kind, .int .i64 0, .int .i64 due, .int .i64 0, .int .i64 ref, .int .i64 0, .string ⟨#[]⟩, .string ⟨#[]⟩, .string ⟨#[]⟩, .slice none 0 0])
  have cm := bm0.out.cell
  have HN := Lib.hid (show noteN D id kind due ref = none by unfold noteN; rw [if_neg (of_decide_eq_false h1)]; rw [if_neg (by simpa using h3)]; rw [if_pos (by simpa using h2), if_neg (by simpa using h5)])
  have hE := Lib.hid (ends_no g b n D ref 3 _ HP0.out hr h5)
  clear hP h5
  go_enter Try.func16, Try.ntmps16
  go_wp2_with (go_at_call 34; refine hE.out.mono ?_; rintro e w' ⟨rfl, rfl⟩)
  go_ret
  exact note_none HN.out HP0.out HG0.out

set_option maxRecDepth 100000 in
set_option maxHeartbeats 4000000 in
theorem note_4y (g b n : Nat) (D : DataW Unit) (id kind due ref : Int) (w : World) (hP : PSet w g b n D) (hn : n < 9223372036854775807) (hw : (Lit.int .i64 id).wf = true) (hr : (Lit.int .i64 ref).wf = true) (h1 : decide (id < 0) = false) (h3 : (kind == 3) = false) (h2 : (kind == 4) = true) (h5 : ((st D ref).1 != 1) = false) :
    Calls Try.prog 16 #[.pointer (some ⟨g, 0, none⟩), .int .i64 id, .agg #[.int .i64 kind, .int .i64 0, .int .i64 due, .int .i64 0, .int .i64 ref, .int .i64 0, .string ⟨#[]⟩, .string ⟨#[]⟩, .string ⟨#[]⟩, .slice none 0 0]] w (NotePost g b n D (noteN D id kind due ref) w) := by
  have HG0 := Lib.hid (World.grownBy_alloc w (.cells #[.int .i64 kind, .int .i64 0, .int .i64 due, .int .i64 0, .int .i64 ref, .int .i64 0, .string ⟨#[]⟩, .string ⟨#[]⟩, .string ⟨#[]⟩, .slice none 0 0] 39) (some b))
  have HP0 := Lib.hid (hP.kept (balloc (o := .cells #[.int .i64 kind, .int .i64 0, .int .i64 due, .int .i64 0, .int .i64 ref, .int .i64 0, .string ⟨#[]⟩, .string ⟨#[]⟩, .string ⟨#[]⟩, .slice none 0 0] 39) (Below.refl _ _)))
  have bm0 := Lib.hid (Blk.new w 39 #[.int .i64 kind, .int .i64 0, .int .i64 due, .int .i64 0, .int .i64 ref, .int .i64 0, .string ⟨#[]⟩, .string ⟨#[]⟩, .string ⟨#[]⟩, .slice none 0 0])
  have cm := bm0.out.cell
  have HN := Lib.hid (show noteN D id kind due ref = some (D.put (.int .i64 ref) (oneD (3, 0))) by unfold noteN; rw [if_neg (of_decide_eq_false h1)]; rw [if_neg (by simpa using h3)]; rw [if_pos (by simpa using h2), if_pos (by simpa using h5)])
  have hE := Lib.hid (ends_yes g b n D ref 3 _ HP0.out hn hr h5)
  clear hP h5
  go_enter Try.func16, Try.ntmps16
  go_wp2_with (go_at_call 34; refine hE.out.mono ?_; rintro e w' ⟨rfl, hP1, hG1⟩)
  go_ret
  exact note_some HN.out hP1 (HG0.out.trans hG1)

set_option maxRecDepth 100000 in
set_option maxHeartbeats 4000000 in
theorem note_0 (g b n : Nat) (D : DataW Unit) (id kind due ref : Int) (w : World) (hP : PSet w g b n D) (hn : n < 9223372036854775807) (hw : (Lit.int .i64 id).wf = true) (hr : (Lit.int .i64 ref).wf = true) (h1 : decide (id < 0) = false) (h3 : (kind == 3) = false) (h4 : (kind == 4) = false) (h2 : (kind == 2) = false) :
    Calls Try.prog 16 #[.pointer (some ⟨g, 0, none⟩), .int .i64 id, .agg #[.int .i64 kind, .int .i64 0, .int .i64 due, .int .i64 0, .int .i64 ref, .int .i64 0, .string ⟨#[]⟩, .string ⟨#[]⟩, .string ⟨#[]⟩, .slice none 0 0]] w (NotePost g b n D (noteN D id kind due ref) w) := by
  have HG0 := Lib.hid (World.grownBy_alloc w (.cells #[.int .i64 kind, .int .i64 0, .int .i64 due, .int .i64 0, .int .i64 ref, .int .i64 0, .string ⟨#[]⟩, .string ⟨#[]⟩, .string ⟨#[]⟩, .slice none 0 0] 39) (some b))
  have HP0 := Lib.hid (hP.kept (balloc (o := .cells #[.int .i64 kind, .int .i64 0, .int .i64 due, .int .i64 0, .int .i64 ref, .int .i64 0, .string ⟨#[]⟩, .string ⟨#[]⟩, .string ⟨#[]⟩, .slice none 0 0] 39) (Below.refl _ _)))
  have bm0 := Lib.hid (Blk.new w 39 #[.int .i64 kind, .int .i64 0, .int .i64 due, .int .i64 0, .int .i64 ref, .int .i64 0, .string ⟨#[]⟩, .string ⟨#[]⟩, .string ⟨#[]⟩, .slice none 0 0])
  have cm := bm0.out.cell
  have HN := Lib.hid (show noteN D id kind due ref = none by unfold noteN; rw [if_neg (of_decide_eq_false h1), if_neg (by simpa using h3), if_neg (by simpa using h4), if_neg (by simpa using h2)])
  clear hP
  go_enter Try.func16, Try.ntmps16
  go_wp2
  go_ret
  exact note_none HN.out HP0.out HG0.out

set_option maxRecDepth 100000 in
set_option maxHeartbeats 4000000 in
theorem note_2n (g b n : Nat) (D : DataW Unit) (id kind due ref : Int) (w : World) (hP : PSet w g b n D) (hn : n < 9223372036854775807) (hw : (Lit.int .i64 id).wf = true) (hr : (Lit.int .i64 ref).wf = true) (h1 : decide (id < 0) = false) (h3 : (kind == 3) = false) (h4 : (kind == 4) = false) (h2 : (kind == 2) = true) (h5 : ((st D id).1 == 0 && (st D id).2 == 0) = false) :
    Calls Try.prog 16 #[.pointer (some ⟨g, 0, none⟩), .int .i64 id, .agg #[.int .i64 kind, .int .i64 0, .int .i64 due, .int .i64 0, .int .i64 ref, .int .i64 0, .string ⟨#[]⟩, .string ⟨#[]⟩, .string ⟨#[]⟩, .slice none 0 0]] w (NotePost g b n D (noteN D id kind due ref) w) := by
  have HG0 := Lib.hid (World.grownBy_alloc w (.cells #[.int .i64 kind, .int .i64 0, .int .i64 due, .int .i64 0, .int .i64 ref, .int .i64 0, .string ⟨#[]⟩, .string ⟨#[]⟩, .string ⟨#[]⟩, .slice none 0 0] 39) (some b))
  have HP0 := Lib.hid (hP.kept (balloc (o := .cells #[.int .i64 kind, .int .i64 0, .int .i64 due, .int .i64 0, .int .i64 ref, .int .i64 0, .string ⟨#[]⟩, .string ⟨#[]⟩, .string ⟨#[]⟩, .slice none 0 0] 39) (Below.refl _ _)))
  have bm0 := Lib.hid (Blk.new w 39 #[.int .i64 kind, .int .i64 0, .int .i64 due, .int .i64 0, .int .i64 ref, .int .i64 0, .string ⟨#[]⟩, .string ⟨#[]⟩, .string ⟨#[]⟩, .slice none 0 0])
  have cm := bm0.out.cell
  have HN := Lib.hid (show noteN D id kind due ref = none by
    unfold noteN; rw [if_neg (of_decide_eq_false h1), if_neg (by simpa using h3), if_neg (by simpa using h4), if_pos (by simpa using h2), if_neg]
    intro e; rw [e] at h5; simp at h5)
  have c0 := HP0.out.blk.cell
  have hl := look_one HP0.out.own id hw
  have hz : ∀ w, (Instr.build 73 #[]).run Try.prog w = .ok (.agg #[.int .i64 0, .int .i64 0]) w := fun _ => by kernel_rfl
  obtain ⟨c, hc⟩ : ∃ c, st D id = c := ⟨_, rfl⟩
  rw [hc] at hl h5
  clear hP hc
  obtain ⟨x, y⟩ := c
  dsimp only at hl h5
  by_cases hx : x = 0
  · subst hx
    have hy : ¬ y = 0 := by intro e; subst e; simp at h5
    have hyb : (y == 0) = false := by rw [beq_eq_false_iff_ne]; exact hy
    clear h5
    go_enter Try.func16, Try.ntmps16
    go_wp2
    go_ret
    exact note_none HN.out HP0.out HG0.out
  · have hxb : (x == 0) = false := by rw [beq_eq_false_iff_ne]; exact hx
    clear h5
    go_enter Try.func16, Try.ntmps16
    go_wp2
    go_ret
    exact note_none HN.out HP0.out HG0.out

def noteR (g b mb n : Nat) (D : DataW Unit) (id due : Int) : Nat → Value → World → Prop
  | 0, v, _ => v = .pointer (some ⟨g, 0, none⟩)
  | 1, v, _ => v = .pointer (some ⟨g, 0, none⟩)
  | 2, v, _ => v = .pointer (some ⟨g, 0, none⟩)
  | 3, v, _ => v = .map (some b)
  | 4, v, _ => v = .int .i64 id
  | 5, v, _ => v = .pointer (some ⟨mb, 2, none⟩)
  | 6, v, _ => v = .int .i64 due
  | 7, v, _ => v = .agg #[.int .i64 1, .int .i64 due]
  | 8, _, w => w.ownsMap Try.prog 3 oneR b (n + 1) (D.put (.int .i64 id) (oneD (1, due)))
  | _, _, _ => True
def LeN (b n : Nat) (D1 : DataW Unit) (w w' : World) : Prop := w.grownBy w' (some b) ∧ (w.ownsMap Try.prog 3 oneR b (n + 1) D1 → w'.ownsMap Try.prog 3 oneR b (n + 1) D1)
theorem LeN.refl (b n : Nat) (D1 : DataW Unit) (w : World) : LeN b n D1 w w := ⟨World.grownBy.refl w _, id⟩
theorem noteR_mono (g b mb n : Nat) (D : DataW Unit) (id due : Int) : ∀ i v w1 w2, LeN b n (D.put (.int .i64 id) (oneD (1, due))) w1 w2 → noteR g b mb n D id due i v w1 → noteR g b mb n D id due i v w2 := by
  intro i v w1 w2 hle h
  match i with
  | 0 | 1 | 2 | 3 | 4 | 5 | 6 | 7 => exact h
  | 8 => exact hle.2 h
  | _ + 9 => trivial

set_option maxRecDepth 100000 in
set_option maxHeartbeats 4000000 in
theorem note_2y (g b n : Nat) (D : DataW Unit) (id kind due ref : Int) (w : World) (hP : PSet w g b n D) (hn : n < 9223372036854775807) (hw : (Lit.int .i64 id).wf = true) (hr : (Lit.int .i64 ref).wf = true) (h1 : decide (id < 0) = false) (h3 : (kind == 3) = false) (h4 : (kind == 4) = false) (h2 : (kind == 2) = true) (h5 : ((st D id).1 == 0 && (st D id).2 == 0) = true) :
    Calls Try.prog 16 #[.pointer (some ⟨g, 0, none⟩), .int .i64 id, .agg #[.int .i64 kind, .int .i64 0, .int .i64 due, .int .i64 0, .int .i64 ref, .int .i64 0, .string ⟨#[]⟩, .string ⟨#[]⟩, .string ⟨#[]⟩, .slice none 0 0]] w (NotePost g b n D (noteN D id kind due ref) w) := by
  have HG0 := Lib.hid (World.grownBy_alloc w (.cells #[.int .i64 kind, .int .i64 0, .int .i64 due, .int .i64 0, .int .i64 ref, .int .i64 0, .string ⟨#[]⟩, .string ⟨#[]⟩, .string ⟨#[]⟩, .slice none 0 0] 39) (some b))
  have HP0 := Lib.hid (hP.kept (balloc (o := .cells #[.int .i64 kind, .int .i64 0, .int .i64 due, .int .i64 0, .int .i64 ref, .int .i64 0, .string ⟨#[]⟩, .string ⟨#[]⟩, .string ⟨#[]⟩, .slice none 0 0] 39) (Below.refl _ _)))
  have bm0 := Lib.hid (Blk.new w 39 #[.int .i64 kind, .int .i64 0, .int .i64 due, .int .i64 0, .int .i64 ref, .int .i64 0, .string ⟨#[]⟩, .string ⟨#[]⟩, .string ⟨#[]⟩, .slice none 0 0])
  have cm := bm0.out.cell
  have HN := Lib.hid (show noteN D id kind due ref = some (D.put (.int .i64 id) (oneD (1, due))) by
    unfold noteN; rw [if_neg (of_decide_eq_false h1), if_neg (by simpa using h3), if_neg (by simpa using h4), if_pos (by simpa using h2), if_pos]
    have := h5; simp at this; exact Prod.ext this.1 this.2)
  have c0 := HP0.out.blk.cell
  have hl := look_one HP0.out.own id hw
  have hz : ∀ w, (Instr.build 73 #[]).run Try.prog w = .ok (.agg #[.int .i64 0, .int .i64 0]) w := fun _ => by kernel_rfl
  obtain ⟨c, hc⟩ : ∃ c, st D id = c := ⟨_, rfl⟩
  rw [hc] at hl h5
  have hmbb : w.heap.size ≠ b := by have := hP.own.lt; omega
  clear hP hc
  obtain ⟨x, y⟩ := c
  have h6 : x = 0 ∧ y = 0 := by have := h5; simp at this; exact this
  obtain ⟨rfl, rfl⟩ := h6
  dsimp only at hl
  clear h5
  go_enter Try.func16, Try.ntmps16
  go_wp2_with fail
  obtain ⟨mb, hmb⟩ : ∃ mb, w.heap.size = mb := ⟨_, rfl⟩
  have HBm := bm0
  have HP := HP0
  rw [hmb] at HBm hmbb ⊢
  refine wp_region_putF (F := fun j x => j = 8 → x.ownsMap Try.prog 3 oneR b n D) (by kernel_rfl) (LeN b n (D.put (.int .i64 id) (oneD (1, due)))) (noteR g b mb n D id due) (by kernel_rfl) ?_ ?_ ?_ ?_ ?_ ?_
  · exact fun _ _ => HP.out.own
  · exact ⟨⟨rfl, rfl, rfl, Nat.le_refl _, fun _ _ _ => rfl⟩, fun h => h⟩
  · exact fun _ _ _ h1 h2 => ⟨h1.1.trans h2.1, fun h => h2.2 (h1.2 h)⟩
  · exact noteR_mono g b mb n D id due
  · refine ⟨?_, ?_, ?_, ?_, ?_, ?_, ?_, ?_, ?_, trivial⟩
    · intro a w' hle hF hk hR K hK
      have k0 : a.tmps[0]?.getD undef = .pointer (some ⟨g, 0, none⟩) := hk 0 (by kernel_rfl)
      refine ite_yes rfl ?_
      go_simp
      exact hK _ _ (LeN.refl _ _ _ _) (fun _ _ h => h) rfl
    · intro a w' hle hF hk hR K hK
      have k37 : a.tmps[37]?.getD undef = .pointer (some ⟨g, 0, none⟩) := hR 0 (by kernel_rfl)
      refine ite_yes rfl ?_
      go_simp
      exact hK _ _ (LeN.refl _ _ _ _) (fun _ _ h => h) rfl
    · intro a w' hle hF hk hR K hK
      have k38 : a.tmps[38]?.getD undef = .pointer (some ⟨g, 0, none⟩) := hR 1 (by kernel_rfl)
      refine ite_yes rfl ?_
      go_simp
      exact hK _ _ (LeN.refl _ _ _ _) (fun _ _ h => h) rfl
    · intro a w' hle hF hk hR K hK
      have k39 : a.tmps[39]?.getD undef = .pointer (some ⟨g, 0, none⟩) := hR 2 (by kernel_rfl)
      refine ite_yes rfl ?_
      have c0 := (show Blk w' g _ _ from (hle.1.block g HP.out.blk.lt (by intro e; exact HP.out.ne (Option.some.inj e))).trans HP.out.blk).cell
      go_simp
      exact hK _ _ (LeN.refl _ _ _ _) (fun _ _ h => h) rfl
    · intro a w' hle hF hk hR K hK
      have k1 : a.tmps[1]?.getD undef = .int .i64 id := hk 1 (by kernel_rfl)
      refine ite_yes rfl ?_
      go_simp
      exact hK _ _ (LeN.refl _ _ _ _) (fun _ _ h => h) rfl
    · intro a w' hle hF hk hR K hK
      have k5 : a.tmps[5]?.getD undef = .pointer (some ⟨mb, 0, none⟩) := hk 5 (by kernel_rfl)
      refine ite_yes rfl ?_
      go_simp
      exact hK _ _ (LeN.refl _ _ _ _) (fun _ _ h => h) rfl
    · intro a w' hle hF hk hR K hK
      have k42 : a.tmps[42]?.getD undef = .pointer (some ⟨mb, 2, none⟩) := hR 5 (by kernel_rfl)
      refine ite_yes rfl ?_
      have c1 := (show Blk w' mb _ _ from (hle.1.block mb HBm.out.lt (by intro e; exact hmbb (Option.some.inj e))).trans HBm.out).cell
      go_simp
      exact hK _ _ (LeN.refl _ _ _ _) (fun _ _ h => h) rfl
    · intro a w' hle hF hk hR K hK
      have k43 : a.tmps[43]?.getD undef = .int .i64 due := hR 6 (by kernel_rfl)
      refine ite_yes rfl ?_
      go_simp
      exact hK _ _ (LeN.refl _ _ _ _) (fun _ _ h => h) rfl
    · intro a w' hle hF hk hR K hK
      have k40 : a.tmps[40]?.getD undef = .map (some b) := hR 3 (by kernel_rfl)
      have k41 : a.tmps[41]?.getD undef = .int .i64 id := hR 4 (by kernel_rfl)
      have k44 : a.tmps[44]?.getD undef = .agg #[.int .i64 1, .int .i64 due] := hR 7 (by kernel_rfl)
      refine ite_yes rfl ?_
      obtain ⟨w1, hrun, hown1, hg1⟩ := (hF rfl).update kint Try.underlying68 (by unfold maxLen; omega) (keyOf_int_mk Try.underlying3 hw) (oneR_mk (1, due))
      replace hrun : (Instr.mapUpdate 68 (.map (some b)) (.int .i64 id) (.agg #[.int .i64 1, .int .i64 due])).run Try.prog w' = .ok () w1 := hrun
      go_simp
      exact hK undef _ ⟨hg1, fun _ => hown1⟩ (fun j hj h e => absurd e hj) hown1
  · intro f w' hle hR hN
    have hown := hN 8 (by decide) (by kernel_rfl)
    have HO := Lib.hid hown
    have f37 : f 37 = .pointer (some ⟨g, 0, none⟩) := hR 0 37 (by kernel_rfl)
    have f38 : f 38 = .pointer (some ⟨g, 0, none⟩) := hR 1 38 (by kernel_rfl)
    have f39 : f 39 = .pointer (some ⟨g, 0, none⟩) := hR 2 39 (by kernel_rfl)
    have f40 : f 40 = .map (some b) := hR 3 40 (by kernel_rfl)
    have f41 : f 41 = .int .i64 id := hR 4 41 (by kernel_rfl)
    have f42 : f 42 = .pointer (some ⟨mb, 2, none⟩) := hR 5 42 (by kernel_rfl)
    have f43 : f 43 = .int .i64 due := hR 6 43 (by kernel_rfl)
    have f44 : f 44 = .agg #[.int .i64 1, .int .i64 due] := hR 7 44 (by kernel_rfl)
    simp only [putAll, List.foldl_cons, List.foldl_nil, f37, f38, f39, f40, f41, f42, f43, f44, List.setIfInBounds_toArray, List.set_cons_succ, List.set_cons_zero]
    go_wp2
    go_ret
    exact note_some HN.out (HP.out.turned hle.1 HO.out) (HG0.out.trans hle.1)

theorem note_any (g b n : Nat) (D : DataW Unit) (id kind due ref : Int) (w : World) (hP : PSet w g b n D) (hn : n < 9223372036854775807) (hw : (Lit.int .i64 id).wf = true) (hr : (Lit.int .i64 ref).wf = true) :
    Calls Try.prog 16 #[.pointer (some ⟨g, 0, none⟩), .int .i64 id, .agg #[.int .i64 kind, .int .i64 0, .int .i64 due, .int .i64 0, .int .i64 ref, .int .i64 0, .string ⟨#[]⟩, .string ⟨#[]⟩, .string ⟨#[]⟩, .slice none 0 0]] w (NotePost g b n D (noteN D id kind due ref) w) := by
  rcases Bool.eq_false_or_eq_true (decide (id < 0)) with h1 | h1
  · exact note_neg g b n D id kind due ref w hP hn hw hr h1
  rcases Bool.eq_false_or_eq_true (kind == 3) with h3 | h3
  · rcases Bool.eq_false_or_eq_true ((st D ref).1 != 1) with h5 | h5
    · exact note_3n g b n D id kind due ref w hP hn hw hr h1 h3 h5
    · exact note_3y g b n D id kind due ref w hP hn hw hr h1 h3 h5
  rcases Bool.eq_false_or_eq_true (kind == 4) with h4 | h4
  · rcases Bool.eq_false_or_eq_true ((st D ref).1 != 1) with h5 | h5
    · exact note_4n g b n D id kind due ref w hP hn hw hr h1 h3 h4 h5
    · exact note_4y g b n D id kind due ref w hP hn hw hr h1 h3 h4 h5
  rcases Bool.eq_false_or_eq_true (kind == 2) with h2 | h2
  · rcases Bool.eq_false_or_eq_true ((st D id).1 == 0 && (st D id).2 == 0) with h5 | h5
    · exact note_2y g b n D id kind due ref w hP hn hw hr h1 h3 h4 h2 h5
    · exact note_2n g b n D id kind due ref w hP hn hw hr h1 h3 h4 h2 h5
  · exact note_0 g b n D id kind due ref w hP hn hw hr h1 h3 h4 h2

end Go.Proofs.Ytnlpohcnlmdocaa
