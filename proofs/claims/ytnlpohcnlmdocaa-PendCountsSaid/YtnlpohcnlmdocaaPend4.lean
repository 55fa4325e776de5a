/- What is still to come: its keys; those that are over. -/
import Derived.Test.YtnlpohcnlmdocaaPend3
import Derived.Test.YtnlpohcnlmdocaaPendShelf
import Derived.OwnWalkIn
import Derived.Shelf.Abstract
import Derived.Laws.OwnMore
namespace Go.Proofs.Ytnlpohcnlmdocaa
open Go.RowKit Go.Shelf Go.Maps Go.Sort
set_option linter.unusedSimpArgs false
set_option linter.unusedVariables false

theorem keysP_any (b : Nat) (w : World) :
    Calls Try.prog 36 #[.map (some b)] w fun e w' => e = .returned (.func (.func 66) #[] #[.pointer (some ⟨w.heap.size, 0, none⟩)]) ∧ w' = w.alloc (.cells #[.map (some b)] 68) :=
  (callsIn_wide (n := 2)).1 (AnyZI.keys_in Try.keysZI Fence.wide 2 trivial rfl (some b) w)

set_option maxRecDepth 100000 in
theorem collectP_any (b n : Nat) (D : DataW Unit) (w : World) (hO : w.ownsMap Try.prog 3 oneR b n D) (hn : n ≤ 1000000) :
    Calls Try.prog 35 #[.func (.func 66) #[] #[.pointer (some ⟨w.heap.size, 0, none⟩)]] (w.alloc (.cells #[.map (some b)] 68)) fun e w' =>
      ∃ (v : Value) (ss : List Int), e = .returned v ∧ ss.Perm (intKeys D) ∧ w'.ownsRow (w.alloc (.cells #[.map (some b)] 68)).heap.size 3 1 v ss.length (ss.map encZ) ∧ Below (w.alloc (.cells #[.map (some b)] 68)).heap.size (w.alloc (.cells #[.map (some b)] 68)) w' := by
  have hs : Maps.size D ≤ n := hO.size_le
  have hseq := AnyZI.keys_gives { Try.keysZI with } (H := Unit) Fence.wide 3 trivial rfl (by omega) w.heap.size b n D (R := oneR) (w.alloc (.cells #[.map (some b)] 68)) (by simp) (by simp) (hO.alloc _)
  have h := AnyZI.collect_in Try.collectZI Fence.wide 5 trivial trivial rfl (by omega) 66 #[.pointer (some ⟨w.heap.size, 0, none⟩)] trivial (enters_of Try.func66 (by kernel_rfl) rfl) _ (Maps.size D) (by unfold maxLen; omega) (by omega) _ hseq
  refine (callsIn_wide.1 h).mono ?_
  rintro e w' ⟨v, ss, rfl, hS, hrow, _, hb⟩
  exact ⟨v, ss, rfl, hS, hrow, hb⟩

def overB (D : DataW Unit) (id : Int) : Bool := (st D id).1 != 1
set_option maxRecDepth 100000 in
set_option maxHeartbeats 2000000 in
theorem over_any (g b n : Nat) (D : DataW Unit) (id : Int) (w : World) (hP : PSet w g b n D) (hw : (Lit.int .i64 id).wf = true) :
    Calls Try.prog 38 #[.pointer (some ⟨g, 0, none⟩), .int .i64 id] w fun e w' => e = .returned (.bool (overB D id)) ∧ w = w' := by
  have hS := Lib.hid (state_any g b n D id w hP hw)
  have HO := Lib.hid (show ((st D id).1 != 1) = overB D id from rfl)
  clear hP
  go_enter Try.func38, Try.ntmps38
  go_wp2_with (go_at_call 18; refine hS.out.mono ?_; rintro e w' ⟨rfl, rfl⟩)
  go_ret
  exact ⟨ret_bool HO.out, rfl⟩

/-- A list of numbers of one's own, each a number of 64 bits. -/
def Wf (l : List Int) : Prop := ∀ x ∈ l, (Lit.int .i64 x).wf = true
theorem anyo_take {D : DataW Unit} {l : List Int} {k : Nat} (h : k < l.length) (hA : (l.take k).any (overB D) = false) (hk : overB D l[k] = false) : (l.take (k + 1)).any (overB D) = false := by
  rw [List.take_succ_eq_append_getElem h, List.any_append, hA]; simp [hk]
/-- What the search hands back. -/
def OverIdx (D : DataW Unit) (l : List Int) (e : Ending) : Prop :=
  (e = .returned (.int .i64 (-1)) ∧ l.any (overB D) = false) ∨ ∃ k : Nat, ∃ h : k < l.length, e = .returned (.int .i64 k) ∧ overB D l[k] = true ∧ (l.take k).any (overB D) = false

set_option maxRecDepth 100000 in
set_option maxHeartbeats 4000000 in
theorem overIdx_any (g b n : Nat) (D : DataW Unit) (q c : Nat) (l : List Int) (w : World) (hP : PSet w g b n D) (hl : ∀ j (h : j < l.length), w.cell? ⟨q, j, none⟩ = some (.int .i64 l[j])) (hwf : Wf l) (hn : l.length ≤ 1000000) :
    Calls Try.prog 67 #[.slice (some ⟨q, 0, none⟩) l.length c, .func (.func 38) #[.pointer (some ⟨g, 0, none⟩)] #[]] w fun e w' => OverIdx D l e ∧ w = w' := by
  have HL := Lib.hid hl
  have HW := Lib.hid hwf
  have HP := Lib.hid hP
  clear hl hwf hP
  go_enter Try.func67, Try.ntmps67
  go_wp2
  go_loop [8] (fun i => ∃ k : Nat, k ≤ l.length ∧ i = .int .i64 k ∧ Hid ((l.take k).any (overB D) = false)) (fun i => l.length - (intOf i).toNat)
  case atStart => exact ⟨0, Nat.zero_le _, rfl, rfl⟩
  case round =>
    obtain ⟨k, hk, rfl, HA⟩ := hrel
    by_cases hlt : k < l.length
    · have hck := HL.out k hlt
      have hwx := HW.out l[k] (List.getElem_mem hlt)
      obtain ⟨x, hx⟩ : ∃ x, l[k] = x := ⟨_, rfl⟩
      rw [hx] at hck hwx
      have HX := Lib.hid hx
      have HQ := Lib.hid (over_any g b n D x w HP.out hwx)
      clear hx
      rcases Bool.eq_false_or_eq_true (overB D x) with hK | hK
      · have HK := Lib.hid hK
        rw [hK] at HQ
        clear hK
        go_wp2_with (go_at_call 38; refine HQ.out.mono ?_; rintro e w' ⟨rfl, rfl⟩)
        go_ret
        exact ⟨.inr ⟨k, hlt, rfl, by rw [HX.out]; exact HK.out, HA.out⟩, rfl⟩
      · have HK := Lib.hid (anyo_take hlt HA.out (by rw [HX.out]; exact hK))
        rw [hK] at HQ
        clear hK
        go_wp2_with (go_at_call 38; refine HQ.out.mono ?_; rintro e w' ⟨rfl, rfl⟩)
        go_round
        case rel => exact ⟨k + 1, by omega, by go_num, HK⟩
        case measure => simp [intOf]; omega
    · obtain rfl : k = l.length := by omega
      have HK := Lib.hid (show l.any (overB D) = false by have := HA.out; rw [List.take_of_length_le (by omega)] at this; exact this)
      go_wp2
      go_ret
      exact ⟨.inl ⟨rfl, HK.out⟩, rfl⟩

end Go.Proofs.Ytnlpohcnlmdocaa
