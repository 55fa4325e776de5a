/- Events: operations that write memory, each told as: there is a later world, of which this is known. -/
import Derived.Test.YtnlpohcnlmdocaaA
import Derived.Laws.Rows
import Derived.Laws.Tables
import Derived.Great.BuildSlice
namespace Go.Proofs.Ytnlpohcnlmdocaa
open Go.RowKit

/-- Block g is just these cells. -/
def Blk (w : World) (g : Nat) (t : TypeId) (cs : Array Value) : Prop := w.heap[g]? = some (.cells cs t (0, 0))
/-- Of a later world: but for block g all is as it was. -/
structure But (g : Nat) (w w' : World) : Prop where
  os : w'.os = w.os
  tape : w'.tape = w.tape
  output : w'.output = w.output
  size : w'.heap.size = w.heap.size
  block : ∀ k, k ≠ g → w'.heap[k]? = w.heap[k]?

theorem But.below {g B : Nat} {w w' : World} (h : But g w w') (hB : B ≤ g) : Below B w w' :=
  ⟨h.os, h.tape, h.output, by rw [h.size]; exact Nat.le_refl _, fun k hk => h.block k (by omega)⟩
theorem But.setRow {w : World} {g : Nat} {cs : Array Value} : But g w (w.setRow g cs) :=
  ⟨rfl, rfl, rfl, size_setRow w g cs, fun k hk => setRow_other w g k cs hk⟩
theorem But.setCell {w : World} {g i : Nat} {v : Value} : But g w (w.setCell ⟨g, i, none⟩ v) :=
  ⟨rfl, rfl, rfl, World.size_setCell _ _ _, fun k hk => heap_setCell_other w _ k v hk⟩

section
variable {w w' : World} {g : Nat} {t : TypeId} {cs : Array Value}
theorem Blk.lt (h : Blk w g t cs) : g < w.heap.size := by
  rcases Nat.lt_or_ge g w.heap.size with hlt | hge
  · exact hlt
  · unfold Blk at h; rw [Array.getElem?_eq_none hge] at h; cases h
theorem Blk.cell (h : Blk w g t cs) (i : Nat) : w.cell? ⟨g, i, none⟩ = cs[i]? := cell_of_row w g i cs t (0, 0) h
theorem Blk.frozen (h : Blk w g t cs) (i : Nat) : w.frozen? ⟨g, i, none⟩ = false := frozen_of_row w g i cs t h
theorem Blk.below {B : Nat} (h : Blk w g t cs) (hb : Below B w w') (hg : g < B) : Blk w' g t cs := (hb.block g hg).trans h
theorem Blk.later (h : Blk w g t cs) (hb : Below w.heap.size w w') : Blk w' g t cs := h.below hb h.lt
theorem Blk.but {g' : Nat} (h : Blk w g t cs) (hb : But g' w w') (hne : g ≠ g') : Blk w' g t cs := (hb.block g hne).trans h
theorem Blk.drewN (h : Blk w g t cs) (n : Nat) : Blk (w.drewN n) g t cs := h
theorem Blk.new (w : World) (t : TypeId) (cs : Array Value) : Blk (w.alloc (.cells cs t)) w.heap.size t cs := heap_alloc_new w _
end

section
variable {P : Program} {ops : Array Oper} {rest : List Oper} {o : Oper} {a : Act} {w : World} {Q : Exit → Act → World → Prop}

/-- A value of one cell goes into a known block. -/
theorem ev_field (hgd : o.guard = none) {ty : TypeId} {x y : Operand} (ho : o.op = .store ty x y) (hd : o.dst = none) {g i : Nat} (hx : a.eval x = .pointer (some ⟨g, i, none⟩)) {v : Value} (hy : a.eval y = v)
    (h1 : v.oneCell' = true) (hi : (P.info? ty).map (·.size) = some 1) {t : TypeId} {cs : Array Value} (hg : Blk w g t cs) (hlt : i < cs.size)
    (h : ∀ w', Blk w' g t (cs.setIfInBounds i v) → But g w w' → wpList P ops Q rest a w') : wpList P ops Q (o :: rest) a w :=
  wpList_plain hgd fun _ hK => by
    have hc : v.cells = #[v] := by cases v <;> first | rfl | cases h1
    have hcell : w.cell? ⟨g, i, none⟩ = some cs[i] := by rw [hg.cell]; simp [hlt]
    have hst : (store ⟨g, i, none⟩ v).run P w = .ok () (w.setCell ⟨g, i, none⟩ v) := by
      rw [run_store P w _ v _ h1, hcell]
      simp [hg.frozen]
    cases hq : P.info? ty with
    | none => simp [hq] at hi
    | some inf =>
      have hs : inf.size = 1 := by simpa [hq] using hi
      unfold Oper.wp execOp
      have hadd : (⟨g, i, none⟩ : Addr).add 0 = ⟨g, i, none⟩ := by unfold Addr.add; simp
      have hsv : (storeVar ty ⟨g, i, none⟩ v).run P w = .ok () (w.setCell ⟨g, i, none⟩ v) := by
        simp [storeVar, sizeOf, typeInfo, hq, hc, hs, storeCells, hadd, hst]
      simp only [ho, hx, hy, Instr.storeAt, Instr.sureAddr, Sem.run_bind, Sem.run_pure, Result.andThen_ok, hsv]
      exact hK _ _ (by rw [hd]; exact h _ (heap_setCell_same w g i cs t v hg) But.setCell)

/-- A whole struct goes into a known block. -/
theorem ev_row (hgd : o.guard = none) {ty : TypeId} {x y : Operand} (ho : o.op = .store ty x y) (hd : o.dst = none) {g : Nat} (hx : a.eval x = .pointer (some ⟨g, 0, none⟩)) {cells : Array Value} (hy : a.eval y = .agg cells)
    (h1 : cells.all (·.oneCell') = true) (hi : (P.info? ty).map (·.size) = some cells.size) {t : TypeId} {cs : Array Value} (hg : Blk w g t cs) (hold : cs.size = cells.size)
    (h : ∀ w', Blk w' g t cells → But g w w' → wpList P ops Q rest a w') : wpList P ops Q (o :: rest) a w :=
  wpList_store_rowTo hgd ty x y ho hd g cells hx hy t cs hg hi hold h1 (h _ (setRow_heap w g cs cells t (0, 0) hg) But.setRow)
end

end Go.Proofs.Ytnlpohcnlmdocaa
