/- What is still to come: the map in memory; pend.New, State, Due, ends. -/
import Derived.Test.YtnlpohcnlmdocaaAll
import Derived.Test.YtnlpohcnlmdocaaRelF
import Derived.Test.YtnlpohcnlmdocaaEv
import Derived.Maps.Own
import Derived.Maps.OwnOps
import Derived.Maps.OwnSet
import Derived.Maps.Views
import Derived.Maps.Ext
import Derived.Maps.RangeWalk
import Derived.Maps.AppendAt
namespace Go.Proofs.Ytnlpohcnlmdocaa
open Go.RowKit Go.Shelf Go.Maps
set_option linter.unusedSimpArgs false
set_option linter.unusedVariables false

def oneD (c : Int × Int) : DataW Unit := .agg [.lit (.int .i64 c.1), .lit (.int .i64 c.2)]
def oneV (c : Int × Int) : Value := .agg #[.int .i64 c.1, .int .i64 c.2]
def oneR : Value → Option (DataW Unit × List MemPlace)
  | .agg cs => match cs.toList with
    | [.int .i64 s, .int .i64 d] => some (oneD (s, d), [])
    | _ => none
  | _ => none
theorem oneR_inv {v : Value} {y : DataW Unit × List MemPlace} (h : oneR v = some y) : ∃ c : Int × Int, v = oneV c ∧ y = (oneD c, []) := by
  unfold oneR at h
  split at h
  · rename_i cs
    split at h
    · rename_i s d e
      obtain ⟨l⟩ := cs
      dsimp only at e
      subst e
      exact ⟨(s, d), rfl, (Option.some.inj h).symm⟩
    · cases h
  · cases h
theorem oneR_mk (c : Int × Int) : oneR (oneV c) = some (oneD c, []) := rfl
/-- A record's state, and when it is due. -/
def st (D : DataW Unit) (id : Int) : Int × Int := match D.atKey (.int .i64 id) (oneD (0, 0)) with
  | .agg [.lit (.int _ s), .lit (.int _ d)] => (s, d)
  | _ => (0, 0)
theorem st_of {D : DataW Unit} {id : Int} {c : Int × Int} (h : D.atKey (.int .i64 id) (oneD (0, 0)) = oneD c) : st D id = c := by unfold st; rw [h]; rfl
theorem kint : Keyed Try.prog 3 := int_keyed Try.underlying3

/-- The set in memory: its block, its map. -/
structure PSet (w : World) (g b n : Nat) (D : DataW Unit) : Prop where
  blk : Blk w g 70 #[.map (some b)]
  own : w.ownsMap Try.prog 3 oneR b n D
  ne : g ≠ b
theorem PSet.kept {w w' : World} {g b n : Nat} {D : DataW Unit} (h : PSet w g b n D) (hb : Below w.heap.size w w') : PSet w' g b n D :=
  ⟨h.blk.later hb, h.own.kept (row := none) ⟨hb.os, hb.tape, hb.output, hb.size, fun k hk _ => hb.block k hk⟩ (by simp), h.ne⟩

theorem look_one {w : World} {b n : Nat} {D : DataW Unit} (h : w.ownsMap Try.prog 3 oneR b n D) (id : Int) (hw : (Lit.int .i64 id).wf = true) :
    (Instr.lookup 68 (.map (some b)) (.int .i64 id) false).run Try.prog w = .ok (.agg #[.int .i64 (st D id).1, .int .i64 (st D id).2]) w := by
  obtain ⟨v, ps, hrun, hv⟩ := h.lookup kint Try.underlying68 (z := oneV (0, 0)) (by kernel_rfl) (oneR_mk (0, 0)) (keyOf_int_mk Try.underlying3 hw)
  obtain ⟨c, rfl, hy⟩ := oneR_inv hv
  rw [st_of (Prod.mk.inj hy).1]
  exact hrun

theorem field0 (s d : Int) (w : World) : (Instr.field 73 (.agg #[.int .i64 s, .int .i64 d]) 0).run Try.prog w = .ok (.int .i64 s) w := by kernel_rfl
theorem field1 (s d : Int) (w : World) : (Instr.field 73 (.agg #[.int .i64 s, .int .i64 d]) 1).run Try.prog w = .ok (.int .i64 d) w := by kernel_rfl

set_option maxRecDepth 100000 in
set_option maxHeartbeats 2000000 in
theorem state_any (g b n : Nat) (D : DataW Unit) (id : Int) (w : World) (hP : PSet w g b n D) (hw : (Lit.int .i64 id).wf = true) :
    Calls Try.prog 18 #[.pointer (some ⟨g, 0, none⟩), .int .i64 id] w fun e w' => e = .returned (.int .i64 (st D id).1) ∧ w = w' := by
  have c0 := hP.blk.cell
  have hl := look_one hP.own id hw
  obtain ⟨c, hc⟩ : ∃ c, st D id = c := ⟨_, rfl⟩
  rw [hc] at hl ⊢
  have hf := field0 c.1 c.2 w
  clear hP hc
  go_enter Try.func18, Try.ntmps18
  go_wp2
  go_ret
  exact ⟨rfl, rfl⟩

def dueL (D : DataW Unit) (id : Int) : Int := if ((st D id).1 != 1) = true then 0 else (st D id).2
set_option maxRecDepth 100000 in
set_option maxHeartbeats 2000000 in
theorem due_any (g b n : Nat) (D : DataW Unit) (id : Int) (w : World) (hP : PSet w g b n D) (hw : (Lit.int .i64 id).wf = true) :
    Calls Try.prog 19 #[.pointer (some ⟨g, 0, none⟩), .int .i64 id] w fun e w' => e = .returned (.int .i64 (dueL D id)) ∧ w = w' := by
  have hS := Lib.hid (state_any g b n D id w hP hw)
  have c0 := hP.blk.cell
  have hl := look_one hP.own id hw
  have HD := Lib.hid (show dueL D id = if ((st D id).1 != 1) = true then 0 else (st D id).2 from rfl)
  obtain ⟨c, hc⟩ : ∃ c, st D id = c := ⟨_, rfl⟩
  rw [hc] at hl HD hS
  have hf := field1 c.1 c.2 w
  clear hP hc
  rcases Bool.eq_false_or_eq_true (c.1 != 1) with h1 | h1
  · have HE := Lib.hid (show dueL D id = 0 by rw [HD.out, h1]; rfl)
    go_enter Try.func19, Try.ntmps19
    go_wp2_with (go_at_call 18; refine hS.out.mono ?_; rintro e w' ⟨rfl, rfl⟩)
    go_ret
    exact ⟨ret_int HE.out.symm, rfl⟩
  · have HE := Lib.hid (show dueL D id = c.2 by rw [HD.out, h1]; rfl)
    go_enter Try.func19, Try.ntmps19
    go_wp2_with (go_at_call 18; refine hS.out.mono ?_; rintro e w' ⟨rfl, rfl⟩)
    go_ret
    exact ⟨ret_int HE.out.symm, rfl⟩

/-- All blocks but the map's stand. -/
theorem PSet.turned {w w' : World} {g b n n' : Nat} {D D' : DataW Unit} (h : PSet w g b n D) (hg : w.grownBy w' (some b)) (ho : w'.ownsMap Try.prog 3 oneR b n' D') : PSet w' g b n' D' :=
  ⟨(hg.block g h.blk.lt (by intro e; exact h.ne (Option.some.inj e))).trans h.blk, ho, h.ne⟩

set_option maxRecDepth 100000 in
set_option maxHeartbeats 2000000 in
theorem ends_no (g b n : Nat) (D : DataW Unit) (id s : Int) (w : World) (hP : PSet w g b n D) (hw : (Lit.int .i64 id).wf = true) (h1 : ((st D id).1 != 1) = true) :
    Calls Try.prog 34 #[.pointer (some ⟨g, 0, none⟩), .int .i64 id, .int .i64 s] w fun e w' => e = .returned (.bool false) ∧ w = w' := by
  have hS := Lib.hid (state_any g b n D id w hP hw)
  obtain ⟨c, hc⟩ : ∃ c, st D id = c := ⟨_, rfl⟩
  rw [hc] at h1 hS
  clear hP hc
  go_enter Try.func34, Try.ntmps34
  go_wp2_with (go_at_call 18; refine hS.out.mono ?_; rintro e w' ⟨rfl, rfl⟩)
  go_ret
  exact ⟨rfl, rfl⟩
set_option maxRecDepth 100000 in
set_option maxHeartbeats 2000000 in
theorem ends_yes (g b n : Nat) (D : DataW Unit) (id s : Int) (w : World) (hP : PSet w g b n D) (hn : n < 9223372036854775807) (hw : (Lit.int .i64 id).wf = true) (h1 : ((st D id).1 != 1) = false) :
    Calls Try.prog 34 #[.pointer (some ⟨g, 0, none⟩), .int .i64 id, .int .i64 s] w fun e w' => e = .returned (.bool true) ∧ PSet w' g b (n + 1) (D.put (.int .i64 id) (oneD (s, 0))) ∧ w.grownBy w' (some b) := by
  have hS := Lib.hid (state_any g b n D id w hP hw)
  have c0 := hP.blk.cell
  have HP := Lib.hid hP
  obtain ⟨c, hc⟩ : ∃ c, st D id = c := ⟨_, rfl⟩
  rw [hc] at h1 hS
  clear hP hc
  go_enter Try.func34, Try.ntmps34
  go_wp2_with (first
    | (go_at_call 18; refine hS.out.mono ?_; rintro e w' ⟨rfl, rfl⟩)
    | (at_mapUpdate; refine wpList_mapUpdate_own _ rfl _ _ _ 68 rfl 3 73 kint Try.underlying68 oneR b n D rfl HP.out.own (by unfold maxLen; omega) _ (oneV (s, 0)) (.int .i64 id) rfl rfl (keyOf_int_mk Try.underlying3 hw) _ [] (oneR_mk (s, 0)) ?_; intro w1 hown1 hgrow1))
  go_ret
  exact ⟨rfl, HP.out.turned hgrow1 hown1, hgrow1⟩

set_option maxRecDepth 100000 in
set_option maxHeartbeats 2000000 in
theorem newP_any (w : World) :
    Calls Try.prog 14 #[] w fun e w' => (∃ g b, e = .returned (.pointer (some ⟨g, 0, none⟩)) ∧ PSet w' g b 0 (.map []) ∧ w.heap.size ≤ g ∧ w.heap.size ≤ b) ∧ Below w.heap.size w w' := by
  have hmm := @run_makeMap Try.prog
  go_enter Try.func14, Try.ntmps14
  go_wp2
  go_ret
  refine ⟨⟨_, _, rfl, ⟨heap_alloc2_new w _ _, (World.ownsMap_made w Try.prog 3 oneR).alloc _, by simp⟩, by simp, Nat.le_refl _⟩, balloc (balloc (Below.refl _ _))⟩

end Go.Proofs.Ytnlpohcnlmdocaa
