/- What is still to come: which comes first. -/
import Derived.Test.YtnlpohcnlmdocaaPend5
namespace Go.Proofs.Ytnlpohcnlmdocaa
open Go.RowKit Go.Shelf Go.Maps Go.Sort
set_option linter.unusedSimpArgs false
set_option linter.unusedVariables false

/-- A later world: blocks laid behind, draws. -/
def LeGr (w w' : World) : Prop := ∃ q os, w' = grow (w.drewN q) os
theorem LeGr.refl (w : World) : LeGr w w := ⟨0, #[], by rw [grow_empty]; rfl⟩
theorem LeGr.trans {a b c : World} (h1 : LeGr a b) (h2 : LeGr b c) : LeGr a c := by
  obtain ⟨q1, o1, rfl⟩ := h1
  obtain ⟨q2, o2, rfl⟩ := h2
  refine ⟨q1 + q2, o1 ++ o2, ?_⟩
  rw [← grow_grow]
  congr 1
  show grow ((a.drewN q1).drewN q2) o1 = _
  rw [World.drewN_drewN]
theorem LeGr.alloc (w : World) (o : Obj) : LeGr w (w.alloc o) := ⟨0, #[o], alloc_eq_grow w o⟩
theorem LeGr.below {w w' : World} (h : LeGr w w') : Below w.heap.size w w' := by
  obtain ⟨q, os, rfl⟩ := h
  refine ⟨rfl, rfl, rfl, by show w.heap.size ≤ (w.heap ++ os).size; simp, fun k hk => ?_⟩
  show (w.heap ++ os)[k]? = w.heap[k]?
  rw [Array.getElem?_append_left hk]

def orL (a c : Int) : Int := if (a != 0) = true then a else c
set_option maxRecDepth 100000 in
set_option maxHeartbeats 4000000 in
theorem or_any (a c : Int) (b : Nat) (w : World) (h0 : w.cell? ⟨b, 0, none⟩ = some (.int .i64 a)) (h1 : w.cell? ⟨b, 1, none⟩ = some (.int .i64 c)) :
    Calls Try.prog 41 #[.slice (some ⟨b, 0, none⟩) 2 2] w fun e w' => e = .returned (.int .i64 (orL a c)) ∧ w = w' := by
  go_enter Try.func41, Try.ntmps41
  go_wp2
  go_loop [8] (fun i => (i = .int .i64 0) ∨ (i = .int .i64 1 ∧ (a != 0) = false) ∨ (i = .int .i64 2 ∧ (a != 0) = false ∧ (c != 0) = false)) (fun i => 2 - (intOf i).toNat)
  case atStart => exact .inl rfl
  case round =>
    rcases hrel with rfl | ⟨rfl, ha⟩ | ⟨rfl, ha, hc⟩
    · rcases Bool.eq_false_or_eq_true (a != 0) with ha | ha
      · have HE := Lib.hid (show a = orL a c by unfold orL; rw [if_pos ha])
        go_wp2
        go_ret
        exact ⟨ret_int HE.out, rfl⟩
      · go_wp2
        go_round
        case rel => exact .inr (.inl ⟨by go_num, ha⟩)
        case measure => simp [intOf]
    · rcases Bool.eq_false_or_eq_true (c != 0) with hc | hc
      · have HE := Lib.hid (show c = orL a c by unfold orL; rw [if_neg (by simp [ha])])
        go_wp2
        go_ret
        exact ⟨ret_int HE.out, rfl⟩
      · go_wp2
        go_round
        case rel => exact .inr (.inr ⟨by go_num, ha, hc⟩)
        case measure => simp [intOf]
    · have h0 : c = 0 := by simpa using hc
      have HE := Lib.hid (show (0 : Int) = orL a c by unfold orL; rw [if_neg (by simp [ha])]; exact h0.symm)
      clear h0
      go_wp2
      go_ret
      exact ⟨ret_int HE.out, rfl⟩

/-- Which comes first. -/
def cfL (D : DataW Unit) (x y : Int) : Int := orL (Lib.compareInt (dueL D x) (dueL D y)) (Lib.compareInt x y)
theorem two_cells (w : World) (p q : Int) : (w.alloc (.cells #[.int .i64 p, .int .i64 q] 3)).cell? ⟨w.heap.size, 0, none⟩ = some (.int .i64 p) ∧ (w.alloc (.cells #[.int .i64 p, .int .i64 q] 3)).cell? ⟨w.heap.size, 1, none⟩ = some (.int .i64 q) :=
  ⟨(Blk.new w 3 #[.int .i64 p, .int .i64 q]).cell 0, (Blk.new w 3 #[.int .i64 p, .int .i64 q]).cell 1⟩
def cmpR (g : Nat) (D : DataW Unit) (x y : Int) : Nat → Value → World → Prop
  | 0, v, _ => v = .pointer (some ⟨g, 0, none⟩)
  | 1, v, _ => v = .int .i64 x
  | 2, v, _ => v = .int .i64 (dueL D x)
  | 3, v, _ => v = .pointer (some ⟨g, 0, none⟩)
  | 4, v, _ => v = .int .i64 y
  | 5, v, _ => v = .int .i64 (dueL D y)
  | 6, v, _ => v = .int .i64 (Lib.compareInt (dueL D x) (dueL D y))
  | 7, v, _ => v = .int .i64 x
  | 8, v, _ => v = .int .i64 y
  | 9, v, _ => v = .int .i64 (Lib.compareInt x y)
  | 10, v, w => ∃ b1, v = .slice (some ⟨b1, 0, none⟩) 2 2 ∧ w.cell? ⟨b1, 0, none⟩ = some (.int .i64 (Lib.compareInt (dueL D x) (dueL D y))) ∧ w.cell? ⟨b1, 1, none⟩ = some (.int .i64 (Lib.compareInt x y))
  | 11, v, _ => v = .int .i64 (cfL D x y)
  | 12, v, _ => v = .int .i64 (cfL D x y)
  | _, _, _ => True
theorem cmpR_mono (g : Nat) (D : DataW Unit) (x y : Int) : ∀ i v w1 w2, LeGr w1 w2 → cmpR g D x y i v w1 → cmpR g D x y i v w2 := by
  intro i v w1 w2 hle h
  match i with
  | 0 | 1 | 2 | 3 | 4 | 5 | 6 | 7 | 8 | 9 | 11 | 12 => exact h
  | 10 =>
    obtain ⟨b1, e, h1, h2⟩ := h
    exact ⟨b1, e, (hle.below.cell (p := ⟨b1, 0, none⟩) (cell_lt h1)).trans h1, (hle.below.cell (p := ⟨b1, 1, none⟩) (cell_lt h2)).trans h2⟩
  | _ + 13 => trivial

set_option maxRecDepth 100000 in
set_option maxHeartbeats 8000000 in
theorem cmpP_any (g b n : Nat) (D : DataW Unit) (sb : Nat) (x y : Int) (w : World) (hP : PSet w g b n D) (hs : w.cell? ⟨sb, 0, none⟩ = some (.pointer (some ⟨g, 0, none⟩))) (hwx : (Lit.int .i64 x).wf = true) (hwy : (Lit.int .i64 y).wf = true) :
    Calls Try.prog 40 #[.int .i64 x, .int .i64 y, .pointer (some ⟨sb, 0, none⟩)] w fun e w' => e = .returned (.int .i64 (cfL D x y)) ∧ LeGr w w' := by
  have HP := Lib.hid hP
  clear hP
  go_enter Try.func40, Try.ntmps40
  go_wp2_with fail
  refine wp_region_put (by kernel_rfl) LeGr (cmpR g D x y) (by kernel_rfl) ?_ ?_ ?_ ?_ ?_
  · exact ⟨1, #[], by rw [grow_empty]; rfl⟩
  · exact fun _ _ _ h1 h2 => h1.trans h2
  · exact cmpR_mono g D x y
  · refine ⟨?_, ?_, ?_, ?_, ?_, ?_, ?_, ?_, ?_, ?_, ?_, ?_, ?_, trivial⟩
    · intro a w' hle hk hR K hK
      have k2 : a.tmps[2]?.getD undef = .pointer (some ⟨sb, 0, none⟩) := hk 2 (by kernel_rfl)
      refine ite_yes rfl ?_
      have c0 : w'.cell? ⟨sb, 0, none⟩ = some (.pointer (some ⟨g, 0, none⟩)) := (hle.below.cell (p := ⟨sb, 0, none⟩) (cell_lt hs)).trans hs
      go_simp
      exact hK _ _ (LeGr.refl _) rfl
    · intro a w' hle hk hR K hK
      have k0 : a.tmps[0]?.getD undef = .int .i64 x := hk 0 (by kernel_rfl)
      refine ite_yes rfl ?_
      go_simp
      exact hK _ _ (LeGr.refl _) rfl
    · intro a w' hle hk hR K hK
      have k6 : a.tmps[6]?.getD undef = .pointer (some ⟨g, 0, none⟩) := hR 0 (by kernel_rfl)
      have k7 : a.tmps[7]?.getD undef = .int .i64 x := hR 1 (by kernel_rfl)
      refine ite_yes rfl ?_
      go_simp
      refine (due_any g b n D x w' (HP.out.kept hle.below) hwx).mono ?_
      rintro e w'' ⟨rfl, rfl⟩
      exact hK _ _ (LeGr.refl _) rfl
    · intro a w' hle hk hR K hK
      have k2 : a.tmps[2]?.getD undef = .pointer (some ⟨sb, 0, none⟩) := hk 2 (by kernel_rfl)
      refine ite_yes rfl ?_
      have c0 : w'.cell? ⟨sb, 0, none⟩ = some (.pointer (some ⟨g, 0, none⟩)) := (hle.below.cell (p := ⟨sb, 0, none⟩) (cell_lt hs)).trans hs
      go_simp
      exact hK _ _ (LeGr.refl _) rfl
    · intro a w' hle hk hR K hK
      have k1 : a.tmps[1]?.getD undef = .int .i64 y := hk 1 (by kernel_rfl)
      refine ite_yes rfl ?_
      go_simp
      exact hK _ _ (LeGr.refl _) rfl
    · intro a w' hle hk hR K hK
      have k9 : a.tmps[9]?.getD undef = .pointer (some ⟨g, 0, none⟩) := hR 3 (by kernel_rfl)
      have k10 : a.tmps[10]?.getD undef = .int .i64 y := hR 4 (by kernel_rfl)
      refine ite_yes rfl ?_
      go_simp
      refine (due_any g b n D y w' (HP.out.kept hle.below) hwy).mono ?_
      rintro e w'' ⟨rfl, rfl⟩
      exact hK _ _ (LeGr.refl _) rfl
    · intro a w' hle hk hR K hK
      have k8 : a.tmps[8]?.getD undef = .int .i64 (dueL D x) := hR 2 (by kernel_rfl)
      have k11 : a.tmps[11]?.getD undef = .int .i64 (dueL D y) := hR 5 (by kernel_rfl)
      refine ite_yes rfl ?_
      go_simp
      refine (Try.cmp_Compare_int (dueL D x) (dueL D y) w').mono ?_
      rintro e w'' ⟨rfl, rfl⟩
      exact hK _ _ (LeGr.refl _) rfl
    · intro a w' hle hk hR K hK
      have k0 : a.tmps[0]?.getD undef = .int .i64 x := hk 0 (by kernel_rfl)
      refine ite_yes rfl ?_
      go_simp
      exact hK _ _ (LeGr.refl _) rfl
    · intro a w' hle hk hR K hK
      have k1 : a.tmps[1]?.getD undef = .int .i64 y := hk 1 (by kernel_rfl)
      refine ite_yes rfl ?_
      go_simp
      exact hK _ _ (LeGr.refl _) rfl
    · intro a w' hle hk hR K hK
      have k13 : a.tmps[13]?.getD undef = .int .i64 x := hR 7 (by kernel_rfl)
      have k14 : a.tmps[14]?.getD undef = .int .i64 y := hR 8 (by kernel_rfl)
      refine ite_yes rfl ?_
      go_simp
      refine (Try.cmp_Compare_int x y w').mono ?_
      rintro e w'' ⟨rfl, rfl⟩
      exact hK _ _ (LeGr.refl _) rfl
    · intro a w' hle hk hR K hK
      have k12 : a.tmps[12]?.getD undef = .int .i64 (Lib.compareInt (dueL D x) (dueL D y)) := hR 6 (by kernel_rfl)
      have k15 : a.tmps[15]?.getD undef = .int .i64 (Lib.compareInt x y) := hR 9 (by kernel_rfl)
      refine ite_yes rfl ?_
      go_simp
      exact hK _ _ (LeGr.alloc _ _) ⟨w'.heap.size, rfl, two_cells w' _ _⟩
    · intro a w' hle hk hR K hK
      refine ite_yes rfl ?_
      obtain ⟨b1, e16, hS⟩ := hR 10 (by kernel_rfl)
      replace e16 : a.tmps[16]?.getD undef = .slice (some ⟨b1, 0, none⟩) 2 2 := e16
      have HS := Lib.hid hS
      clear hS
      go_simp
      refine (or_any _ _ b1 w' HS.out.1 HS.out.2).mono ?_
      rintro e w'' ⟨rfl, rfl⟩
      exact hK _ _ (LeGr.refl _) rfl
    · intro a w' hle hk hR K hK
      have k17 : a.tmps[17]?.getD undef = .int .i64 (cfL D x y) := hR 11 (by kernel_rfl)
      refine ite_yes rfl ?_
      go_simp
      exact hK _ _ (LeGr.refl _) rfl
  · intro f w' hle hR hN
    have f6 : f 6 = .pointer (some ⟨g, 0, none⟩) := hR 0 6 (by kernel_rfl)
    have f7 : f 7 = .int .i64 x := hR 1 7 (by kernel_rfl)
    have f8 : f 8 = .int .i64 (dueL D x) := hR 2 8 (by kernel_rfl)
    have f9 : f 9 = .pointer (some ⟨g, 0, none⟩) := hR 3 9 (by kernel_rfl)
    have f10 : f 10 = .int .i64 y := hR 4 10 (by kernel_rfl)
    have f11 : f 11 = .int .i64 (dueL D y) := hR 5 11 (by kernel_rfl)
    have f12 : f 12 = .int .i64 (Lib.compareInt (dueL D x) (dueL D y)) := hR 6 12 (by kernel_rfl)
    have f13 : f 13 = .int .i64 x := hR 7 13 (by kernel_rfl)
    have f14 : f 14 = .int .i64 y := hR 8 14 (by kernel_rfl)
    have f15 : f 15 = .int .i64 (Lib.compareInt x y) := hR 9 15 (by kernel_rfl)
    have f17 : f 17 = .int .i64 (cfL D x y) := hR 11 17 (by kernel_rfl)
    have f5 : f 5 = .int .i64 (cfL D x y) := hR 12 5 (by kernel_rfl)
    simp only [putAll, List.foldl_cons, List.foldl_nil, f6, f7, f8, f9, f10, f11, f12, f13, f14, f15, f17, f5, List.setIfInBounds_toArray, List.set_cons_succ, List.set_cons_zero]
    clear f6 f7 f8 f9 f10 f11 f12 f13 f14 f15 f17 f5
    go_wp2
    go_ret
    exact ⟨rfl, hle⟩

end Go.Proofs.Ytnlpohcnlmdocaa
