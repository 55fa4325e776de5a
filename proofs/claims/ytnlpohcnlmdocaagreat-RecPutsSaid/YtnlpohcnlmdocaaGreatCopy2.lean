/- A record with keys of its own: rec.Copy. -/
import Derived.Test.YtnlpohcnlmdocaaGreatCopy
import Derived.Test.YtnlpohcnlmdocaaGreatEv
namespace Go.Proofs.YtnlpohcnlmdocaaGreat
open Go.RowKit Go.Shelf
set_option linter.unusedSimpArgs false
set_option linter.unusedVariables false

/-- A record as a value, its keys in blocks from b0 on. -/
def OwnMsg (b0 : Nat) (w : World) (v : Value) (m : Msg) : Prop := ∃ A c, v = .agg #[.int .i64 m.kind, .int .i64 m.queue, .int .i64 m.due, .int .i64 m.retry, .int .i64 m.ref, .int .i64 m.born, .string m.topic, .string m.tag, .string m.body, .slice A m.keys.length c] ∧ m.keys.length ≤ c ∧ w.ownsRow b0 9 1 (.slice A m.keys.length c) m.keys.length (m.keys.map Value.string)

theorem run_ret_blk {fn : Func} {P : Program} {w : World} {g : Nat} {t : TypeId} {cs : Array Value} (h : Blk w g t cs) : True := trivial

theorem ownsRow_but {w w' : World} {b0 : Nat} {e : TypeId} {v : Value} {n : Nat} {xs : List Value} {g : Nat} {t : TypeId} {cs : Array Value} (h : w.ownsRow b0 e 1 v n xs) (hb : But g w w') (hg : Blk w g t cs) (hne : t ≠ e) : w'.ownsRow b0 e 1 v n xs := by
  refine ⟨h.1, ?_⟩
  rcases h.2 with h2 | ⟨k, cap, cur, hv, hbk, hh, r⟩
  · exact .inl h2
  · refine .inr ⟨k, cap, cur, hv, hbk, ?_, r⟩
    rw [hb.block k ?_]; · exact hh
    intro e1; subst e1
    unfold Blk at hg; rw [hh] at hg
    injection hg with h1; injection h1 with _ h3 _
    exact hne h3.symm

set_option maxHeartbeats 4000000 in
theorem copy_any (m : Msg) (A : Option Addr) (c : Nat) (w : World) (hl : Strs w A m.keys) (hn : m.keys.length * 16 ≤ 140737488355328) :
    Calls Tryz.prog 14 #[.agg #[.int .i64 m.kind, .int .i64 m.queue, .int .i64 m.due, .int .i64 m.retry, .int .i64 m.ref, .int .i64 m.born, .string m.topic, .string m.tag, .string m.body, .slice A m.keys.length c]] w fun e w' => (∃ v, e = .returned v ∧ OwnMsg w.heap.size w' v m) ∧ Below w.heap.size w w' := by
  have hC := fun (W : World) (hb : Below w.heap.size w W) => clone_any A c m.keys W (hl.below hb) hn
  clear hl
  go_enter Tryz.func14, Tryz.ntmps14
  have e2 : Blk ((w.alloc (.cells #[.int .i64 m.kind, .int .i64 m.queue, .int .i64 m.due, .int .i64 m.retry, .int .i64 m.ref, .int .i64 m.born, .string m.topic, .string m.tag, .string m.body, .slice A m.keys.length c] 24)).alloc (.cells #[.int .i64 0, .int .i64 0, .int .i64 0, .int .i64 0, .int .i64 0, .int .i64 0, .string ⟨#[]⟩, .string ⟨#[]⟩, .string ⟨#[]⟩, .slice none 0 0] 24)) w.heap.size 24 #[.int .i64 m.kind, .int .i64 m.queue, .int .i64 m.due, .int .i64 m.retry, .int .i64 m.ref, .int .i64 m.born, .string m.topic, .string m.tag, .string m.body, .slice A m.keys.length c] := heap_alloc2_old w _ _
  have e3 : Blk ((w.alloc (.cells #[.int .i64 m.kind, .int .i64 m.queue, .int .i64 m.due, .int .i64 m.retry, .int .i64 m.ref, .int .i64 m.born, .string m.topic, .string m.tag, .string m.body, .slice A m.keys.length c] 24)).alloc (.cells #[.int .i64 0, .int .i64 0, .int .i64 0, .int .i64 0, .int .i64 0, .int .i64 0, .string ⟨#[]⟩, .string ⟨#[]⟩, .string ⟨#[]⟩, .slice none 0 0] 24)) (w.heap.size + 1) 24 #[.int .i64 0, .int .i64 0, .int .i64 0, .int .i64 0, .int .i64 0, .int .i64 0, .string ⟨#[]⟩, .string ⟨#[]⟩, .string ⟨#[]⟩, .slice none 0 0] := heap_alloc2_new w _ _
  go_wp2_with (first
    | (go_at_call 37; refine (hC _ (by repeat (first | exact Below.refl _ _ | apply balloc))).mono ?_; rintro e w' ⟨⟨v, rfl, A', c', rfl, hcc, hrow⟩, hb⟩
       have HB : Below w.heap.size w w' := bstep (by repeat (first | exact Below.refl _ _ | apply balloc)) hb
       have hrow1 := Lib.hid (show w'.ownsRow w.heap.size 9 1 (.slice A' m.keys.length c') m.keys.length (m.keys.map Value.string) from ownsRow_base_a hrow (by simp; omega))
       have g2 := e2.later hb
       have g3 := e3.later hb
       have hc2 := g2.cell)
    | (refine ev_field (ty := 22) (x := .tmp 6) (y := .tmp 5) (g := w.heap.size) (i := 9) (v := .slice A' m.keys.length c') ?_ ?_ ?_ ?_ ?_ ?_ ?_ g2 ?_ ?_; (rfl); (rfl); (rfl); (rfl); (rfl); (rfl); (kernel_rfl); (simp)
       intro w2 g22 hbt
       have HB := HB.trans (hbt.below (Nat.le_refl _))
       have hrow2 := Lib.hid (ownsRow_but hrow1.out hbt g2 (by decide))
       have g23 := g3.but hbt (by omega)
       have hc22 := g22.cell
       clear hc2)
    | (refine ev_row (ty := 24) (x := .tmp 2) (y := .tmp 7) (g := w.heap.size + 1) (cells := #[.int .i64 m.kind, .int .i64 m.queue, .int .i64 m.due, .int .i64 m.retry, .int .i64 m.ref, .int .i64 m.born, .string m.topic, .string m.tag, .string m.body, .slice A' m.keys.length c']) ?_ ?_ ?_ ?_ ?_ ?_ ?_ g23 ?_ ?_; (rfl); (rfl); (rfl); (rfl); (rfl); (simp [Value.oneCell']); (kernel_rfl); (rfl)
       intro w3 g33 hbt
       have HB := HB.trans (hbt.below (by omega))
       have hrow3 := ownsRow_but hrow2.out hbt g23 (by decide)
       have hc33 := g33.cell))
  refine bodyPost_ret (v := .agg #[.int .i64 m.kind, .int .i64 m.queue, .int .i64 m.due, .int .i64 m.retry, .int .i64 m.ref, .int .i64 m.born, .string m.topic, .string m.tag, .string m.body, .slice A' m.keys.length c']) ?_ rfl ⟨⟨_, rfl, A', c', rfl, hcc, hrow3⟩, HB⟩
  simp [results, Tryz.results14, go_sem, hc33]

end Go.Proofs.YtnlpohcnlmdocaaGreat
