/- Four tables: crc.New. -/
import Derived.Test.YtnlpohcnlmdocaaGreatCrc
import Derived.Test.YtnlpohcnlmdocaaGreatRead2
import Derived.Test.YtnlpohcnlmdocaaGreatRel
namespace Go.Proofs.YtnlpohcnlmdocaaGreat
open Go.Shelf Go.RowKit
set_option linter.unusedVariables false
set_option linter.unusedSimpArgs false

def zerosT : Array Value := Array.replicate 1024 (.int .u32 0)
theorem built_zeros : Tryz.prog.built 47 [] = some zerosT := by kernel_rfl
theorem run_box_zeros (w : World) : (Instr.box 47 (.agg zerosT)).run Tryz.prog w = .ok (.pointer (some ⟨w.heap.size, 0, none⟩)) (w.alloc (.cells zerosT 47)) := by kernel_rfl
/-- The tables' cells, the first n of them reckoned. -/
def fillT (n : Nat) : Array Value := Array.ofFn (n := 1024) fun i => if i.val < n then .int .u32 (tabC (i.val / 256) (i.val % 256)) else .int .u32 0
theorem fillT_size (n : Nat) : (fillT n).size = 1024 := by simp [fillT]
theorem fillT_zero : zerosT = fillT 0 := by
  apply Array.ext
  · simp [fillT, zerosT]
  · intro i h1 h2; simp [fillT, zerosT]
theorem fillT_get {n i : Nat} (h : i < n) (hi : i < 1024) : (fillT n)[i]? = some (.int .u32 (tabC (i / 256) (i % 256))) := by
  rw [Array.getElem?_eq_getElem (by rw [fillT_size]; exact hi)]
  simp [fillT, h]
theorem fillT_set {n : Nat} {v : Value} (h : v = .int .u32 (tabC (n / 256) (n % 256))) : (fillT n).setIfInBounds n v = fillT (n + 1) := by
  apply Array.ext
  · simp [fillT]
  · intro i h1 h2
    have hi : i < 1024 := by rw [fillT_size] at h2; exact h2
    rw [Array.getElem_setIfInBounds (by rw [fillT_size]; exact hi)]
    simp only [fillT, Array.getElem_ofFn]
    by_cases hin : n = i
    · subst hin; rw [if_pos rfl, if_pos (by omega), h]
    · rw [if_neg hin]
      by_cases hlt : i < n
      · rw [if_pos hlt, if_pos (by omega)]
      · rw [if_neg hlt, if_neg (by omega)]
theorem getD_opt' (t : Array Value) (i : Nat) (d : Value) : t.getD i d = t[i]?.getD d := by simp

/-- But for block g, which turns into these cells at most. -/
def LeG (g : Nat) (t : TypeId) (cs : Array Value) (a b : World) : Prop := Bt g a b ∧ (b.heap[g]? = a.heap[g]? ∨ Blk b g t cs)
section
variable {g : Nat} {t : TypeId} {cs : Array Value} {a b c : World}
theorem LeG.trans (h : LeG g t cs a b) (h2 : LeG g t cs b c) : LeG g t cs a c := by
  refine ⟨h.1.trans h2.1, ?_⟩
  rcases h2.2 with e | e
  · rcases h.2 with e1 | e1
    · exact .inl (e.trans e1)
    · exact .inr (by unfold Blk; rw [e]; exact e1)
  · exact .inr e
theorem LeG.refl (g : Nat) (t : TypeId) (cs : Array Value) (a : World) : LeG g t cs a a := ⟨Bt.refl g a, .inl rfl⟩
theorem LeG.below (hg : g < a.heap.size) (h : Below a.heap.size a b) : LeG g t cs a b := ⟨bt_below h, .inl (h.block g hg)⟩
theorem LeG.drew (a : World) : LeG g t cs a a.drew := ⟨bt_below (bdrew (Below.refl _ _)), .inl rfl⟩
end
theorem Blk.someOf {w w' : World} {g : Nat} {t : TypeId} {c1 c2 : Array Value} (h : Blk w g t c1) (hle : LeG g t c2 w w') : ∃ cs, Blk w' g t cs ∧ (cs = c1 ∨ cs = c2) := by
  rcases hle.2 with e | e
  · exact ⟨c1, e.trans h, .inl rfl⟩
  · exact ⟨c2, e, .inr rfl⟩

/-- A value of one cell goes into a known block: the one operation. -/
theorem wp_put {P : Program} {o : Oper} {a : Act} {w : World} {K : Act → World → Prop} {Q : Exit → Act → World → Prop} {ty : TypeId} {x y : Operand} (ho : o.op = .store ty x y) (hd : o.dst = none) {g i : Nat} (hx : a.eval x = .pointer (some ⟨g, i, none⟩)) {v : Value} (hy : a.eval y = v)
    (h1 : v.oneCell' = true) (hi : (P.info? ty).map (·.size) = some 1) {t : TypeId} {cs : Array Value} (hg : Blk w g t cs) (hlt : i < cs.size)
    (h : ∀ w', Blk w' g t (cs.setIfInBounds i v) → But g w w' → K a w') : o.wp P a w K Q := by
  have hc : v.cells = #[v] := by cases v <;> first | rfl | cases h1
  have hcell : w.cell? ⟨g, i, none⟩ = some cs[i] := by rw [hg.cell]; simp [hlt]
  have hst : (store ⟨g, i, none⟩ v).run P w = .ok () (w.setCell ⟨g, i, none⟩ v) := by
    rw [run_store P w _ v _ h1, hcell]
    simp [hg.frozen]
  cases hq : P.info? ty with
  | none => simp [hq] at hi
  | some inf =>
    have hs : inf.size = 1 := by simpa [hq] using hi
    unfold Oper.wp execOp
    have hadd : (⟨g, i, none⟩ : Addr).add 0 = ⟨g, i, none⟩ := by unfold Addr.add; simp
    have hsv : (storeVar ty ⟨g, i, none⟩ v).run P w = .ok () (w.setCell ⟨g, i, none⟩ v) := by
      simp [storeVar, sizeOf, typeInfo, hq, hc, hs, storeCells, hadd, hst]
    simp only [ho, hx, hy, Instr.storeAt, Instr.sureAddr, Sem.run_bind, Sem.run_pure, Result.andThen_ok, hsv]
    show K (a.put o.dst undef) _
    rw [hd]
    exact h _ (heap_setCell_same w g i cs t v hg) But.setCell

theorem set_twice {n : Nat} {v : Value} (h : v = .int .u32 (tabC (n / 256) (n % 256))) : (fillT n).setIfInBounds n v = fillT (n + 1) ∧ (fillT (n + 1)).setIfInBounds n v = fillT (n + 1) := by
  refine ⟨fillT_set h, ?_⟩
  rw [← fillT_set h]; simp

def new1R (g k : Nat) : Nat → Value → World → Prop
  | 0, v, _ => v = .pointer (some ⟨g, 0, none⟩)
  | 1, v, _ => v = .int .i64 k
  | 2, v, _ => v = .int .i64 k
  | 3, v, _ => v = .int .u32 k
  | 4, v, _ => v = .int .u32 (tabC 0 k)
  | 5, v, _ => v = .pointer (some ⟨g, 0, none⟩)
  | 6, v, _ => v = .pointer (some ⟨g, 0, none⟩)
  | 7, v, _ => v = .pointer (some ⟨g, 0, none⟩)
  | 8, v, _ => v = .pointer (some ⟨g, k, none⟩)
  | 9, _, w => Blk w g 47 (fillT (k + 1))
  | _, _, _ => True
theorem new1R_mono (g k : Nat) : ∀ i v w1 w2, LeG g 47 (fillT (k + 1)) w1 w2 → new1R g k i v w1 → new1R g k i v w2 := by
  intro i v w1 w2 hle h
  match i with
  | 9 =>
    rcases hle.2 with e | e
    · show w2.heap[g]? = _; rw [e]; exact h
    · exact e
  | 0 | 1 | 2 | 3 | 4 | 5 | 6 | 7 | 8 => exact h
  | _ + 10 => trivial
def new3R (g p q j : Nat) : Nat → Value → World → Prop
  | 0, v, _ => v = .pointer (some ⟨g, 0, none⟩)
  | 1, v, _ => v = .int .i64 q
  | 2, v, _ => v = .int .i64 j
  | 3, v, _ => v = .pointer (some ⟨g, 0, none⟩)
  | 4, v, _ => v = .int .u32 (tabC p j)
  | 5, v, _ => v = .int .u32 ((tabC p j % 256 : Nat) : Int)
  | 6, v, _ => v = .pointer (some ⟨g, 0, none⟩)
  | 7, v, _ => v = .pointer (some ⟨g, 0, none⟩)
  | 8, v, _ => v = .pointer (some ⟨g, 0, none⟩)
  | 9, v, _ => v = .pointer (some ⟨g, tabC p j % 256, none⟩)
  | 10, v, _ => v = .int .u32 (tabC 0 (tabC p j % 256))
  | 11, v, _ => v = .int .u32 (tabC p j)
  | 12, v, _ => v = .int .u32 ((tabC p j : Int) / 256)
  | 13, v, _ => v = .int .u32 (tabC q j)
  | 14, v, _ => v = .pointer (some ⟨g, 0, none⟩)
  | 15, v, _ => v = .pointer (some ⟨g, 0, none⟩)
  | 16, v, _ => v = .pointer (some ⟨g, 256 * q, none⟩)
  | 17, v, _ => v = .pointer (some ⟨g, 256 * q + j, none⟩)
  | 18, _, w => Blk w g 47 (fillT (256 * q + j + 1))
  | _, _, _ => True
theorem new3R_mono (g p q j : Nat) : ∀ i v w1 w2, LeG g 47 (fillT (256 * q + j + 1)) w1 w2 → new3R g p q j i v w1 → new3R g p q j i v w2 := by
  intro i v w1 w2 hle h
  match i with
  | 18 =>
    rcases hle.2 with e | e
    · show w2.heap[g]? = _; rw [e]; exact h
    · exact e
  | 0 | 1 | 2 | 3 | 4 | 5 | 6 | 7 | 8 | 9 | 10 | 11 | 12 | 13 | 14 | 15 | 16 | 17 => exact h
  | _ + 19 => trivial

end Go.Proofs.YtnlpohcnlmdocaaGreat
