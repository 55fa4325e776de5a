/- Times; and what rows survive. -/
import Derived.Test.YtnlpohcnlmdocaaCopy2
namespace Go.Proofs.Ytnlpohcnlmdocaa
open Go.RowKit Go.Shelf
set_option linter.unusedSimpArgs false
set_option linter.unusedVariables false

def okT (n : Int) : Bool := decide (0 ≤ n) && decide (n ≤ 1099511626776)
theorem okT_cases (n : Int) : (decide (n < 0) = true ∧ okT n = false) ∨ (decide (n < 0) = false ∧ decide (1099511626776 < n) = true ∧ okT n = false) ∨ (decide (n < 0) = false ∧ decide (1099511626776 < n) = false ∧ okT n = true) := by
  unfold okT; simp; omega

set_option maxHeartbeats 1000000 in
theorem time_any (A : Option Addr) (c : Nat) (l : List Int) (w : World) (hl : Ints w A l) (hn : l.length ≤ 9223372036854775806) :
    Calls Try.prog 45 #[.slice A l.length c] w fun e w' => e = .returned (.bool (allI okT l)) ∧ w = w' := by
  have HL := Lib.hid hl
  clear hl
  go_enter Try.func45, Try.ntmps45
  go_wp2
  go_loop [7] (fun i => ∃ k : Nat, k ≤ l.length ∧ i = .int .i64 k ∧ Hid ((l.take k).all okT = true)) (fun i => l.length - (intOf i).toNat)
  case atStart => exact ⟨0, Nat.zero_le _, rfl, rfl⟩
  case round =>
    obtain ⟨k, hk, rfl, HA⟩ := hrel
    by_cases hlt : k < l.length
    · obtain ⟨b, o, rfl, hc⟩ := HL.out (by intro e; subst e; simp at hlt)
      have hck := hc k hlt
      obtain ⟨x, hx⟩ : ∃ x, l[k] = x := ⟨_, rfl⟩
      rw [hx] at hck
      have HX := Lib.hid hx
      clear hc hx
      rcases okT_cases x with ⟨h1, hK⟩ | ⟨h1, h2, hK⟩ | ⟨h1, h2, hK⟩
      · have HK := Lib.hid (alli_bad (p := okT) hlt (by rw [HX.out]; exact hK))
        go_wp2
        go_ret
        exact ⟨ret_bool HK.out, rfl⟩
      · have HK := Lib.hid (alli_bad (p := okT) hlt (by rw [HX.out]; exact hK))
        go_wp2
        go_ret
        exact ⟨ret_bool HK.out, rfl⟩
      · go_wp2
        go_round
        case rel => exact ⟨k + 1, by omega, by go_num, alli_take hlt HA.out (by rw [HX.out]; exact hK)⟩
        case measure => simp [intOf]; omega
    · have HK := Lib.hid (alli_good hlt HA.out)
      go_wp2
      go_ret
      exact ⟨ret_bool HK.out, rfl⟩

theorem ownsRow_later {w w' : World} {b0 : Nat} {e : TypeId} {v : Value} {n : Nat} {xs : List Value} (h : w.ownsRow b0 e 1 v n xs) (hb : Below w.heap.size w w') : w'.ownsRow b0 e 1 v n xs := by
  refine ⟨h.1, ?_⟩
  rcases h.2 with h2 | ⟨k, cap, cur, hv, hbk, hh, r⟩
  · exact .inl h2
  · exact .inr ⟨k, cap, cur, hv, hbk, (hb.block k (Array.getElem?_eq_some_iff.1 hh).1).trans hh, r⟩

/-- A value of one cell goes into a known block: the one operation. -/
theorem wp_field {P : Program} {o : Oper} {a : Act} {w : World} {K : Act → World → Prop} {Q : Exit → Act → World → Prop} {ty : TypeId} {x y : Operand} (ho : o.op = .store ty x y) (hd : o.dst = none) {g i : Nat} (hx : a.eval x = .pointer (some ⟨g, i, none⟩)) {v : Value} (hy : a.eval y = v)
    (h1 : v.oneCell' = true) (hi : (P.info? ty).map (·.size) = some 1) {t : TypeId} {cs : Array Value} (hg : Blk w g t cs) (hlt : i < cs.size)
    (h : ∀ w', Blk w' g t (cs.setIfInBounds i v) → But g w w' → K a w') : o.wp P a w K Q := by
  have hc : v.cells = #[v] := by cases v <;> first | rfl | cases h1
  have hcell : w.cell? ⟨g, i, none⟩ = some cs[i] := by rw [hg.cell]; simp [hlt]
  have hst : (store ⟨g, i, none⟩ v).run P w = .ok () (w.setCell ⟨g, i, none⟩ v) := by
    rw [run_store P w _ v _ h1, hcell]
    simp [hg.frozen]
  cases hq : P.info? ty with
  | none => simp [hq] at hi
  | some inf =>
    have hs : inf.size = 1 := by simpa [hq] using hi
    unfold Oper.wp execOp
    have hadd : (⟨g, i, none⟩ : Addr).add 0 = ⟨g, i, none⟩ := by unfold Addr.add; simp
    have hsv : (storeVar ty ⟨g, i, none⟩ v).run P w = .ok () (w.setCell ⟨g, i, none⟩ v) := by
      simp [storeVar, sizeOf, typeInfo, hq, hc, hs, storeCells, hadd, hst]
    simp only [ho, hx, hy, Instr.storeAt, Instr.sureAddr, Sem.run_bind, Sem.run_pure, Result.andThen_ok, hsv]
    show K (a.put o.dst undef) _
    rw [hd]
    exact h _ (heap_setCell_same w g i cs t v hg) But.setCell

end Go.Proofs.Ytnlpohcnlmdocaa
