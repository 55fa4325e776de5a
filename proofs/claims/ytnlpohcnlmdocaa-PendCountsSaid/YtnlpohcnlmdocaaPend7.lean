/- What is still to come: sorted. -/
import Derived.Test.YtnlpohcnlmdocaaPend6
namespace Go.Proofs.Ytnlpohcnlmdocaa
open Go.RowKit Go.Shelf Go.Maps Go.Sort
set_option linter.unusedSimpArgs false
set_option linter.unusedVariables false

/-- A number of 64 bits. -/
abbrev W64 := { x : Int // (Lit.int .i64 x).wf = true }
instance : Inhabited W64 := ⟨⟨0, rfl⟩⟩
def encW (z : W64) : Value := .int .i64 z.1
def cfW (D : DataW Unit) (x y : W64) : Int := cfL D x.1 y.1
/-- Comes x ahead of y? -/
def ahead2 (D : DataW Unit) (x y : Int) : Prop := dueL D x < dueL D y ∨ (dueL D x = dueL D y ∧ x < y)
theorem cfL_neg (D : DataW Unit) (x y : Int) : cfL D x y < 0 ↔ ahead2 D x y := by
  unfold cfL orL Lib.compareInt ahead2
  generalize dueL D x = a
  generalize dueL D y = c
  by_cases h1 : a < c
  · simp [h1]
  · by_cases h2 : c < a
    · simp [h1, h2]; omega
    · have h0 : a = c := by omega
      subst h0
      by_cases h3 : x < y
      · simp [h3]
      · by_cases h4 : y < x <;> simp [h3, h4]
theorem ltW (D : DataW Unit) (x y : W64) : ltOf (cfW D) x y = true ↔ ahead2 D x.1 y.1 := by
  unfold ltOf cfW
  rw [decide_eq_true_iff, cfL_neg]
theorem ltW' (D : DataW Unit) (x y : W64) : ltOf (cfW D) x y = false ↔ ¬ ahead2 D x.1 y.1 := by
  rw [← ltW, Bool.not_eq_true]
theorem swoW (D : DataW Unit) : SWO (ltOf (cfW D)) where
  irrefl x := by rw [ltW']; unfold ahead2; omega
  trans x y z h1 h2 := by rw [ltW] at *; unfold ahead2 at *; omega
  ntrans x y z h1 h2 := by rw [ltW'] at *; unfold ahead2 at *; omega

theorem grown_sortW {w : World} {q n : Nat} {os : Array Obj} (d : Array W64) : w.grownBy (sortWorld encW w q 0 n d os) (some q) := by
  refine ⟨rfl, rfl, rfl, by simp [sortWorld], fun k hk hne => ?_⟩
  unfold sortWorld
  rw [heap_grow_old _ _ (by simpa using hk)]
  have : q ≠ k := fun e => hne (by rw [e])
  show (w.heap.modify q _)[k]? = _
  rw [Array.getElem?_modify, if_neg this]

theorem lays40 (g b n : Nat) (D : DataW Unit) (sb q sz : Nat) (w : World) (hP : PSet w g b n D) (hs : w.cell? ⟨sb, 0, none⟩ = some (.pointer (some ⟨g, 0, none⟩))) (hgq : g ≠ q) (hbq : b ≠ q) (hsq : sb ≠ q) :
    CmpLays1 Try.prog 40 #[.pointer (some ⟨sb, 0, none⟩)] encW (cfW D) q 0 sz w := by
  intro m os dk hdk x y
  have hg := grown_sortW (w := w) (q := q) (n := m) (os := os) dk
  have hP' := hP.far hg hgq hbq
  have hs' : (sortWorld encW w q 0 m dk os).cell? ⟨sb, 0, none⟩ = some (.pointer (some ⟨g, 0, none⟩)) := by
    have hlt := cell_lt hs
    have := hg.block sb hlt (by intro e; exact hsq (Option.some.inj e))
    unfold World.cell? at hs ⊢
    rw [this]; exact hs
  exact cmpP_any g b n D sb x.1 y.1 _ hP' hs' x.2 y.2

theorem wlist : ∀ (l : List Int), Wf l → ∃ d : List W64, d.map (·.1) = l
  | [], _ => ⟨[], rfl⟩
  | x :: l, h => by
    obtain ⟨d, e⟩ := wlist l (fun y hy => h y (List.mem_cons_of_mem _ hy))
    exact ⟨⟨x, h x List.mem_cons_self⟩ :: d, by rw [List.map_cons, e]⟩
theorem row_lt {w : World} {B0 q c n : Nat} {e : TypeId} {xs : List Value} (h : w.ownsRow B0 e 1 (.slice (some ⟨q, 0, none⟩) n c) n xs) : q < w.heap.size := (h.lt q rfl).2

set_option maxRecDepth 100000 in
theorem sortP_any (B0 g b n : Nat) (D : DataW Unit) (sb q c : Nat) (l : List Int) (w : World) (hP : PSet w g b n D) (hs : w.cell? ⟨sb, 0, none⟩ = some (.pointer (some ⟨g, 0, none⟩))) (hrow : w.ownsRow B0 3 1 (.slice (some ⟨q, 0, none⟩) l.length c) l.length (l.map encZ)) (hgq : g ≠ q) (hbq : b ≠ q) (hsq : sb ≠ q) (hwf : Wf l) (hn : l.length ≤ 1000000) :
    Calls Try.prog 39 #[.slice (some ⟨q, 0, none⟩) l.length c, .func (.func 40) #[] #[.pointer (some ⟨sb, 0, none⟩)]] w fun e w' => e = .returned (.tuple #[]) ∧
      ∃ p : List Int, p.Perm l ∧ (∀ i j (hi : i < j) (hj : j < p.length), ¬ ahead2 D p[j] (p[i]'(by omega))) ∧ (∀ j (h : j < p.length), w'.cell? ⟨q, j, none⟩ = some (.int .i64 p[j])) ∧ w.grownBy w' (some q) := by
  obtain ⟨dl, hdl⟩ := wlist l hwf
  obtain ⟨d, hd⟩ : ∃ d : Array W64, d = dl.toArray := ⟨_, rfl⟩
  have hval : d.toList.map (·.1) = l := by rw [hd]; exact hdl
  have hsz : d.size = l.length := by rw [← hval, List.length_map, Array.length_toList]
  have hgv : ∀ j (h : j < l.length), (d[j]!).1 = l[j] := by
    intro j hj
    rw [getElem!_pos d j (by omega)]
    have h1 : (d.toList.map (·.1))[j]? = l[j]? := by rw [hval]
    rw [List.getElem?_map, Array.getElem?_toList, Array.getElem?_eq_getElem (by omega), List.getElem?_eq_getElem hj] at h1
    exact Option.some.inj h1
  have hH : Holds encW w q 0 d := by
    intro j hj
    rw [Nat.zero_add]
    have hjl : j < l.length := by omega
    refine ⟨?_, hrow.frozenAt j⟩
    rw [hrow.cellAt j (by omega), List.getElem?_map, List.getElem?_eq_getElem hjl]
    show some (Value.int .i64 l[j]) = some (Value.int .i64 (d[j]!).1)
    rw [hgv j hjl]
  have h := Try.slices_SortFunc encW (fun _ => rfl) (cfW D) (swoW D) 40 #[.pointer (some ⟨sb, 0, none⟩)] q 0 c d w (enters_of Try.func40 (by kernel_rfl) rfl) (lays40 g b n D sb q d.size w hP hs hgq hbq hsq) hH (row_lt hrow) (by omega)
  rw [hsz] at h
  refine h.mono ?_
  rintro e w' ⟨rfl, d', m, os, hp, hso, rfl⟩
  rw [← hsz] at hp hso
  have hsz' : d'.size = d.size := hp.1
  have hH' := holds_sortWorld encW w q 0 m d d' os (row_lt hrow) hH hsz'
  have hperm : d'.toList.Perm d.toList := by
    have h3 := hp.2.2
    have e1 : (d'.extract 0 d.size).toList = d'.toList := by rw [← hsz']; simp
    have e2 : (d.extract 0 d.size).toList = d.toList := by simp
    rw [e1, e2] at h3; exact h3
  have hg : ∀ j (h : j < (d'.toList.map (·.1)).length), (d'.toList.map (·.1))[j] = (d'[j]!).1 := by
    intro j hj
    rw [List.length_map, Array.length_toList] at hj
    rw [List.getElem_map, getElem!_pos d' j hj]; rfl
  refine ⟨rfl, d'.toList.map (·.1), by rw [← hval]; exact hperm.map _, ?_, ?_, grown_sortW d'⟩
  · intro i j hi hj
    have hj' := hj
    rw [List.length_map, Array.length_toList] at hj'
    rw [hg j hj, hg i (by omega)]
    exact (ltW' D _ _).1 (hso i j (Nat.zero_le _) hi (by omega))
  · intro j hj
    have hj' := hj
    rw [List.length_map, Array.length_toList] at hj'
    rw [hg j hj]
    have := (hH' j (by omega)).1
    rw [Nat.zero_add] at this
    exact this

end Go.Proofs.Ytnlpohcnlmdocaa
