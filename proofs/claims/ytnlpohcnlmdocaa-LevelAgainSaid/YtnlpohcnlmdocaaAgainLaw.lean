/- What comes of a message that failed is what the document says: words. -/
import Derived.Test.YtnlpohcnlmdocaaChain
import Derived.Test.YtnlpohcnlmdocaaRRight
namespace Go.Proofs.Ytnlpohcnlmdocaa
open Go.RowKit Go.Shelf
set_option linter.unusedSimpArgs false
set_option linter.unusedVariables false


theorem blk_at {w : World} {g g' : Nat} {t : TypeId} {cs : Array Value} (h : Blk w g t cs) (e : g = g') : Blk w g' t cs := e ▸ h
theorem great_low {m : Msg} (h : greatM m = false) : m.keys.length * 16 ≤ 140737488355328 ∧ (∀ s ∈ m.keys, s.size ≤ 9223372036854775807) ∧ m.keys.length ≤ 10 ∧ m.body.size ≤ 2000 ∧ m.topic.size ≤ 100 ∧ m.tag.size ≤ 100 := by
  simp only [greatM, bigK, Bool.or_eq_false_iff, decide_eq_false_iff_not, List.any_eq_false] at h
  obtain ⟨h1, h2, h3, h4, h5⟩ := h
  refine ⟨by omega, fun s hs => ?_, by omega, by omega, by omega, by omega⟩
  have := h5 s hs
  simp at this; omega
theorem sameM_self (m : Msg) : sameM m m = true := by simp [sameM]

set_option maxHeartbeats 1000000 in
theorem small_any (n : Int) (w : World) : Calls Try.prog 22 #[.int .i64 n] w fun e w' => e = .returned (.bool (okT n)) ∧ w = w' := by
  rcases Bool.eq_false_or_eq_true (decide (0 ≤ n)) with h | h
  · have HR := Lib.hid (show okT n = decide (n ≤ 1099511626776) by simp only [okT, h, Bool.true_and])
    go_enter Try.func22, Try.ntmps22
    go_wp2
    go_ret
    exact ⟨ret_bool HR.out.symm, rfl⟩
  · have HR := Lib.hid (show okT n = false by simp only [okT, h, Bool.false_and])
    go_enter Try.func22, Try.ntmps22
    go_wp2
    go_ret
    exact ⟨ret_bool HR.out.symm, rfl⟩

def wantD (m : Msg) (g : ByteArray) (now : Int) : Msg := ⟨1, 0, 0, m.retry, 0, now, ⟨#[37, 100, 101, 97, 100, 37]⟩ ++ g, m.tag, m.body, m.keys⟩
def wantY (m : Msg) (id : Int) (g : ByteArray) (now : Int) : Msg := ⟨2, 0, now + delayN (m.retry + 1), m.retry + 1, id, now, ⟨#[37, 114, 101, 116, 114, 121, 37]⟩ ++ g, m.tag, m.body, m.keys⟩
theorem wantD_eq {m : Msg} {g : ByteArray} {now : Int} (h : groupL (L g) = true) : wantD m g now = deadM m g now := by
  unfold wantD deadM; rw [← ownB_yes h]; rfl
theorem wantY_eq {m : Msg} {id : Int} {g : ByteArray} {now : Int} (h : groupL (L g) = true) : wantY m id g now = retryM m id g now := by
  unfold wantY retryM; rw [← ownB_yes h]; rfl
theorem topic_dead {g : ByteArray} (h : groupL (L g) = true) : topicL (L (ownB (B deadL) g)) = true := by
  have e : L (ownB (B deadL) g) = deadL ++ L g := by rw [← ownB_yes h]; simp [L, B, ByteArray.toList_data_append]
  have h1 : Lib.hasPrefix (deadL ++ L g) deadL = true := by unfold Lib.hasPrefix; rw [List.isPrefixOf_iff_prefix]; exact List.prefix_append _ _
  have h2 : (deadL ++ L g).drop 6 = L g := by simp [deadL]
  have h3 : Lib.hasPrefix (deadL ++ L g) retryL = false := rfl
  rw [e]; unfold topicL ofL
  rw [if_neg (fun hh => by rw [h3] at hh; cases hh.1), if_pos ⟨h1, by rw [h2]; exact h⟩]; rfl
theorem right_carries {m : Msg} (h : rightM m = true) (hk : (m.kind == 1) = true ∨ (m.kind == 3) = true) : carriesM m = true := by
  unfold rightM at h
  split at h
  · rcases hk with hk | hk
    · rw [if_pos hk] at h
      simp only [Bool.and_eq_true] at h; exact h.1
    · have h1 : ¬ (m.kind == 1) = true := by simp at hk ⊢; omega
      have h2 : ¬ (m.kind == 2) = true := by simp at hk ⊢; omega
      rw [if_neg h1, if_neg h2, if_pos hk] at h
      exact h
  · cases h
theorem right_dead {m : Msg} {g : ByteArray} {now : Int} (hg : groupL (L g) = true) (hc : carriesM m = true) (h0 : 0 ≤ now) (h1 : now ≤ 1099511627776) : rightM (deadM m g now) = true := by
  have hc' : carriesM (deadM m g now) = true := by
    show carriesM ⟨1, 0, 0, m.retry, 0, now, ownB (B deadL) g, m.tag, m.body, m.keys⟩ = true
    simp only [carriesM, Bool.and_eq_true, decide_eq_true_eq] at hc ⊢
    exact ⟨topic_dead hg, by omega, by omega, hc.2.2.2⟩
  have hn : numsM (deadM m g now) = true := by simp [numsM, allI, okN, deadM]; omega
  simp only [rightM, hn, hc']; rfl
theorem right_retryM {m : Msg} {id : Int} {g : ByteArray} {now : Int} (hg : groupL (L g) = true) (hc : carriesM m = true) (h0 : 0 ≤ now) (h1 : now ≤ 1099511626776) (h2 : 0 ≤ id) (h3 : id ≤ 1099511626776) (h4 : m.retry < 4) : rightM (retryM m id g now) = true := by
  have hr := carries_retry m hc
  obtain ⟨hd0, hd1⟩ : 0 ≤ delayN (m.retry + 1) ∧ delayN (m.retry + 1) ≤ 16 := by unfold delayN; omega
  have hc' : carriesM (retryM m id g now) = true := by
    show carriesM ⟨2, 0, now + delayN (m.retry + 1), m.retry + 1, id, now, ownB (B retryL) g, m.tag, m.body, m.keys⟩ = true
    simp only [carriesM, Bool.and_eq_true, decide_eq_true_eq] at hc ⊢
    exact ⟨topic_retry hg, by omega, by omega, by omega, by omega, hc.2.2.2.2.2⟩
  have hn : numsM (retryM m id g now) = true := by simp [numsM, allI, okN, retryM]; omega
  simp only [rightM, hn, hc']; rfl
theorem delays_at {r : Int} (h0 : 0 ≤ r) (h4 : r < 4) : (#[Value.int .i64 2, Value.int .i64 4, Value.int .i64 8, Value.int .i64 16] : Array Value)[r.toNat]? = some (.int .i64 (delayN (r + 1))) := by
  obtain rfl | rfl | rfl | rfl : r = 0 ∨ r = 1 ∨ r = 2 ∨ r = 3 := by omega
  all_goals rfl
theorem delays_get {r : Int} (h0 : 0 ≤ r) (h4 : r < 4) (h : r.toNat < ([Value.int .i64 2, Value.int .i64 4, Value.int .i64 8, Value.int .i64 16] : List Value).length) : ([Value.int .i64 2, Value.int .i64 4, Value.int .i64 8, Value.int .i64 16] : List Value)[r.toNat] = .int .i64 (delayN (r + 1)) := by
  have e := delays_at h0 h4
  rw [List.getElem?_toArray, List.getElem?_eq_getElem h] at e
  injection e

theorem ag_g (m : Msg) (A : Option Addr) (c : Nat) (id : Int) (g : ByteArray) (now : Int) (w : World) (hl : Strs w A m.keys) (hn : m.keys.length * 16 ≤ 140737488355328) (hs : ∀ s ∈ m.keys, s.size ≤ 9223372036854775807) (hgz : g.size ≤ 9223372036854775800) (f0 : groupL (L g) = false) :
    Calls Try.prog 21 #[.agg #[.int .i64 m.kind, .int .i64 m.queue, .int .i64 m.due, .int .i64 m.retry, .int .i64 m.ref, .int .i64 m.born, .string m.topic, .string m.tag, .string m.body, .slice A m.keys.length c], .int .i64 id, .string g, .int .i64 now] w fun e w' => ∃ A' c', e = .returned (.tuple #[.agg #[.int .i64 0, .int .i64 0, .int .i64 0, .int .i64 0, .int .i64 0, .int .i64 0, .string ⟨#[]⟩, .string ⟨#[]⟩, .string ⟨#[]⟩, .slice A' 0 c'], .int .i64 11]) ∧ w'.ownsRow w.heap.size 9 1 (.slice A' 0 c') 0 (([] : List ByteArray).map Value.string) ∧ Below w.heap.size w w' := by
  have h := again_any m A c id g now w hl hn hs hgz
  have e : againM m id g now = (zeroM, 11) := by simp only [againM, f0]; rfl
  rw [e] at h
  refine h.mono ?_
  rintro e w' ⟨⟨v, rfl, A', c', rfl, hcc, hrow⟩, hb⟩
  exact ⟨A', c', rfl, hrow, hb⟩

theorem ag_m (m : Msg) (A : Option Addr) (c : Nat) (id : Int) (g : ByteArray) (now : Int) (w : World) (hl : Strs w A m.keys) (hn : m.keys.length * 16 ≤ 140737488355328) (hs : ∀ s ∈ m.keys, s.size ≤ 9223372036854775807) (hgz : g.size ≤ 9223372036854775800) (f0 : groupL (L g) = true) (f1 : mayM m = false) :
    Calls Try.prog 21 #[.agg #[.int .i64 m.kind, .int .i64 m.queue, .int .i64 m.due, .int .i64 m.retry, .int .i64 m.ref, .int .i64 m.born, .string m.topic, .string m.tag, .string m.body, .slice A m.keys.length c], .int .i64 id, .string g, .int .i64 now] w fun e w' => ∃ A' c', e = .returned (.tuple #[.agg #[.int .i64 0, .int .i64 0, .int .i64 0, .int .i64 0, .int .i64 0, .int .i64 0, .string ⟨#[]⟩, .string ⟨#[]⟩, .string ⟨#[]⟩, .slice A' 0 c'], .int .i64 1]) ∧ w'.ownsRow w.heap.size 9 1 (.slice A' 0 c') 0 (([] : List ByteArray).map Value.string) ∧ Below w.heap.size w w' := by
  have h := again_any m A c id g now w hl hn hs hgz
  have e : againM m id g now = (zeroM, 1) := by simp only [againM, f0, f1]; rfl
  rw [e] at h
  refine h.mono ?_
  rintro e w' ⟨⟨v, rfl, A', c', rfl, hcc, hrow⟩, hb⟩
  exact ⟨A', c', rfl, hrow, hb⟩

theorem ag_t (m : Msg) (A : Option Addr) (c : Nat) (id : Int) (g : ByteArray) (now : Int) (w : World) (hl : Strs w A m.keys) (hn : m.keys.length * 16 ≤ 140737488355328) (hs : ∀ s ∈ m.keys, s.size ≤ 9223372036854775807) (hgz : g.size ≤ 9223372036854775800) (f0 : groupL (L g) = true) (f1 : mayM m = true) (f2 : allI okT [id, now] = false) :
    Calls Try.prog 21 #[.agg #[.int .i64 m.kind, .int .i64 m.queue, .int .i64 m.due, .int .i64 m.retry, .int .i64 m.ref, .int .i64 m.born, .string m.topic, .string m.tag, .string m.body, .slice A m.keys.length c], .int .i64 id, .string g, .int .i64 now] w fun e w' => ∃ A' c', e = .returned (.tuple #[.agg #[.int .i64 0, .int .i64 0, .int .i64 0, .int .i64 0, .int .i64 0, .int .i64 0, .string ⟨#[]⟩, .string ⟨#[]⟩, .string ⟨#[]⟩, .slice A' 0 c'], .int .i64 1]) ∧ w'.ownsRow w.heap.size 9 1 (.slice A' 0 c') 0 (([] : List ByteArray).map Value.string) ∧ Below w.heap.size w w' := by
  have h := again_any m A c id g now w hl hn hs hgz
  have e : againM m id g now = (zeroM, 1) := by simp only [againM, f0, f1, f2]; rfl
  rw [e] at h
  refine h.mono ?_
  rintro e w' ⟨⟨v, rfl, A', c', rfl, hcc, hrow⟩, hb⟩
  exact ⟨A', c', rfl, hrow, hb⟩

theorem ag_d (m : Msg) (A : Option Addr) (c : Nat) (id : Int) (g : ByteArray) (now : Int) (w : World) (hl : Strs w A m.keys) (hn : m.keys.length * 16 ≤ 140737488355328) (hs : ∀ s ∈ m.keys, s.size ≤ 9223372036854775807) (hgz : g.size ≤ 9223372036854775800) (f0 : groupL (L g) = true) (f1 : mayM m = true) (f2 : allI okT [id, now] = true) (f3 : decide (m.retry < 4) = false) :
    Calls Try.prog 21 #[.agg #[.int .i64 m.kind, .int .i64 m.queue, .int .i64 m.due, .int .i64 m.retry, .int .i64 m.ref, .int .i64 m.born, .string m.topic, .string m.tag, .string m.body, .slice A m.keys.length c], .int .i64 id, .string g, .int .i64 now] w fun e w' => ∃ A' c', e = .returned (.tuple #[.agg #[.int .i64 1, .int .i64 0, .int .i64 0, .int .i64 m.retry, .int .i64 0, .int .i64 now, .string (ownB (B deadL) g), .string m.tag, .string m.body, .slice A' m.keys.length c'], .int .i64 0]) ∧ w'.ownsRow w.heap.size 9 1 (.slice A' m.keys.length c') m.keys.length (m.keys.map Value.string) ∧ Below w.heap.size w w' := by
  have h := again_any m A c id g now w hl hn hs hgz
  have e : againM m id g now = (deadM m g now, 0) := by 
    have f4 : decide (4 ≤ m.retry) = true := by simp at f3 ⊢; omega
    simp only [againM, f0, f1, f2, f4]; rfl
  rw [e] at h
  refine h.mono ?_
  rintro e w' ⟨⟨v, rfl, A', c', rfl, hcc, hrow⟩, hb⟩
  exact ⟨A', c', rfl, hrow, hb⟩

theorem ag_y (m : Msg) (A : Option Addr) (c : Nat) (id : Int) (g : ByteArray) (now : Int) (w : World) (hl : Strs w A m.keys) (hn : m.keys.length * 16 ≤ 140737488355328) (hs : ∀ s ∈ m.keys, s.size ≤ 9223372036854775807) (hgz : g.size ≤ 9223372036854775800) (f0 : groupL (L g) = true) (f1 : mayM m = true) (f2 : allI okT [id, now] = true) (f3 : decide (m.retry < 4) = true) :
    Calls Try.prog 21 #[.agg #[.int .i64 m.kind, .int .i64 m.queue, .int .i64 m.due, .int .i64 m.retry, .int .i64 m.ref, .int .i64 m.born, .string m.topic, .string m.tag, .string m.body, .slice A m.keys.length c], .int .i64 id, .string g, .int .i64 now] w fun e w' => ∃ A' c', e = .returned (.tuple #[.agg #[.int .i64 2, .int .i64 0, .int .i64 (now + delayN (m.retry + 1)), .int .i64 (m.retry + 1), .int .i64 id, .int .i64 now, .string (ownB (B retryL) g), .string m.tag, .string m.body, .slice A' m.keys.length c'], .int .i64 0]) ∧ w'.ownsRow w.heap.size 9 1 (.slice A' m.keys.length c') m.keys.length (m.keys.map Value.string) ∧ Below w.heap.size w w' := by
  have h := again_any m A c id g now w hl hn hs hgz
  have e : againM m id g now = (retryM m id g now, 0) := by 
    have f4 : decide (4 ≤ m.retry) = false := by simp at f3 ⊢; omega
    simp only [againM, f0, f1, f2, f4]; rfl
  rw [e] at h
  refine h.mono ?_
  rintro e w' ⟨⟨v, rfl, A', c', rfl, hcc, hrow⟩, hb⟩
  exact ⟨A', c', rfl, hrow, hb⟩

end Go.Proofs.Ytnlpohcnlmdocaa
