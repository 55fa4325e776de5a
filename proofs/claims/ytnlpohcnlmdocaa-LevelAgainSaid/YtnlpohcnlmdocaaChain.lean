/- What comes of a message that fails again and again. -/
import Derived.Test.YtnlpohcnlmdocaaGreat
namespace Go.Proofs.Ytnlpohcnlmdocaa
open Go.RowKit Go.Shelf
set_option linter.unusedSimpArgs false
set_option linter.unusedVariables false

/-- What lets a message that failed come again. -/
def okM (m : Msg) (g : ByteArray) : Bool := groupL (L g) && carriesM m

theorem topic_retry {g : ByteArray} (h : groupL (L g) = true) : topicL (L (ownB (B retryL) g)) = true := by
  have e : L (ownB (B retryL) g) = retryL ++ L g := by rw [← ownB_yes h]; simp [L, B, ByteArray.toList_data_append]
  have h1 : Lib.hasPrefix (retryL ++ L g) retryL = true := by unfold Lib.hasPrefix; rw [List.isPrefixOf_iff_prefix]; exact List.prefix_append _ _
  have h2 : (retryL ++ L g).drop 7 = L g := by simp [retryL]
  rw [e]; unfold topicL ofL
  rw [if_pos ⟨h1, by rw [h2]; exact h⟩]; rfl
theorem carries_next {m : Msg} {g : ByteArray} {d r f b : Int} (h : okM m g = true) (h0 : 0 ≤ r) (h4 : r ≤ 4) : carriesM ⟨3, 0, d, r, f, b, ownB (B retryL) g, m.tag, m.body, m.keys⟩ = true := by
  simp only [okM, carriesM, Bool.and_eq_true, decide_eq_true_eq] at h ⊢
  exact ⟨topic_retry h.1, by omega, by omega, h0, h4, h.2.2.2.2.2.2⟩
theorem may_next {m : Msg} {g : ByteArray} {d r f b : Int} (h : okM m g = true) (h0 : 0 ≤ r) (h4 : r ≤ 4) (hd : 0 ≤ d ∧ d ≤ 1099511627776) (hf : 0 ≤ f ∧ f ≤ 1099511627776) (hb : 0 ≤ b ∧ b ≤ 1099511627776) :
    mayM ⟨3, 0, d, r, f, b, ownB (B retryL) g, m.tag, m.body, m.keys⟩ = true := by
  have hc := carries_next (d := d) (f := f) (b := b) h h0 h4
  have hn : numsM ⟨3, 0, d, r, f, b, ownB (B retryL) g, m.tag, m.body, m.keys⟩ = true := by simp [numsM, allI, okN]; omega
  simp only [mayM, rightM, hn, hc]; rfl

theorem again_0 (m : Msg) (g : ByteArray) (now : Int) (hg : okM m g = true) (hk : m.kind = 1) (hr : m.retry = 0) (hm : mayM m = true) (h0 : 0 ≤ now) (h1 : now ≤ 4294967295) : againM m 100 g now = ((⟨2, 0, (now + 2), 1, 100, now, (ownB (B retryL) g), m.tag, m.body, m.keys⟩ : Msg), 0) := by
  have f0 : groupL (L g) = true := by simp only [okM, Bool.and_eq_true] at hg; exact hg.1
  have f2 : allI okT [100, now] = true := by simp [allI, okT]; omega
  have f3 : decide (4 ≤ m.retry) = false := by rw [hr]; rfl
  simp only [againM, f0, hm, f2, f3, retryM, hr]; rfl

theorem again_1 (m : Msg) (g : ByteArray) (now : Int) (hg : okM m g = true) (h0 : 0 ≤ now) (h1 : now ≤ 4294967295) : againM (⟨3, 0, (now + 2), 1, 100, (now + 2), (ownB (B retryL) g), m.tag, m.body, m.keys⟩ : Msg) 101 g (now + 2) = ((⟨2, 0, (now + 6), 2, 101, (now + 2), (ownB (B retryL) g), m.tag, m.body, m.keys⟩ : Msg), 0) := by
  have f0 : groupL (L g) = true := by simp only [okM, Bool.and_eq_true] at hg; exact hg.1
  have f2 : allI okT [101, (now + 2)] = true := by simp [allI, okT]; omega
  have hm := may_next (d := (now + 2)) (r := 1) (f := 100) (b := (now + 2)) hg (by omega) (by omega) (by omega) (by omega) (by omega)
  simp only [againM, f0, hm, f2, retryM, deadM, delayN]
  simp
  try omega

theorem again_2 (m : Msg) (g : ByteArray) (now : Int) (hg : okM m g = true) (h0 : 0 ≤ now) (h1 : now ≤ 4294967295) : againM (⟨3, 0, (now + 6), 2, 101, (now + 6), (ownB (B retryL) g), m.tag, m.body, m.keys⟩ : Msg) 102 g (now + 6) = ((⟨2, 0, (now + 14), 3, 102, (now + 6), (ownB (B retryL) g), m.tag, m.body, m.keys⟩ : Msg), 0) := by
  have f0 : groupL (L g) = true := by simp only [okM, Bool.and_eq_true] at hg; exact hg.1
  have f2 : allI okT [102, (now + 6)] = true := by simp [allI, okT]; omega
  have hm := may_next (d := (now + 6)) (r := 2) (f := 101) (b := (now + 6)) hg (by omega) (by omega) (by omega) (by omega) (by omega)
  simp only [againM, f0, hm, f2, retryM, deadM, delayN]
  simp
  try omega

theorem again_3 (m : Msg) (g : ByteArray) (now : Int) (hg : okM m g = true) (h0 : 0 ≤ now) (h1 : now ≤ 4294967295) : againM (⟨3, 0, (now + 14), 3, 102, (now + 14), (ownB (B retryL) g), m.tag, m.body, m.keys⟩ : Msg) 103 g (now + 14) = ((⟨2, 0, (now + 30), 4, 103, (now + 14), (ownB (B retryL) g), m.tag, m.body, m.keys⟩ : Msg), 0) := by
  have f0 : groupL (L g) = true := by simp only [okM, Bool.and_eq_true] at hg; exact hg.1
  have f2 : allI okT [103, (now + 14)] = true := by simp [allI, okT]; omega
  have hm := may_next (d := (now + 14)) (r := 3) (f := 102) (b := (now + 14)) hg (by omega) (by omega) (by omega) (by omega) (by omega)
  simp only [againM, f0, hm, f2, retryM, deadM, delayN]
  simp
  try omega

theorem again_4 (m : Msg) (g : ByteArray) (now : Int) (hg : okM m g = true) (h0 : 0 ≤ now) (h1 : now ≤ 4294967295) : againM (⟨3, 0, (now + 30), 4, 103, (now + 30), (ownB (B retryL) g), m.tag, m.body, m.keys⟩ : Msg) 104 g (now + 30) = ((⟨1, 0, 0, 4, 0, (now + 30), (ownB (B deadL) g), m.tag, m.body, m.keys⟩ : Msg), 0) := by
  have f0 : groupL (L g) = true := by simp only [okM, Bool.and_eq_true] at hg; exact hg.1
  have f2 : allI okT [104, (now + 30)] = true := by simp [allI, okT]; omega
  have hm := may_next (d := (now + 30)) (r := 4) (f := 103) (b := (now + 30)) hg (by omega) (by omega) (by omega) (by omega) (by omega)
  simp only [againM, f0, hm, f2, retryM, deadM, delayN]
  simp
  try omega

/-- The first call tells no fault just if the message may come again. -/
theorem again_bad (m : Msg) (g : ByteArray) (now : Int) (hk : m.kind = 1) (h : okM m g = false ∨ mayM m = false) (h0 : 0 ≤ now) (h1 : now ≤ 4294967295) : ∃ c : Int, (c != 0) = true ∧ againM m 100 g now = (zeroM, c) := by
  unfold againM
  rcases Bool.eq_false_or_eq_true (groupL (L g)) with f0 | f0
  · have hm : mayM m = false := by
      rcases h with h | h
      · simp only [okM, f0, Bool.true_and] at h
        simp only [mayM, rightM, h, hk]; split <;> simp
      · exact h
    exact ⟨1, rfl, by simp [f0, hm]⟩
  · exact ⟨11, rfl, by simp [f0]⟩

theorem step_0 (m : Msg) (A : Option Addr) (c : Nat) (g : ByteArray) (now : Int) (w : World) (hl : Strs w A m.keys) (hn : m.keys.length * 16 ≤ 140737488355328) (hs : ∀ s ∈ m.keys, s.size ≤ 9223372036854775807) (hgz : g.size ≤ 9223372036854775800) (hg : okM m g = true) (hk : m.kind = 1) (hr : m.retry = 0) (hm : mayM m = true) (h0 : 0 ≤ now) (h1 : now ≤ 4294967295) :
    Calls Try.prog 21 #[.agg #[.int .i64 1, .int .i64 m.queue, .int .i64 m.due, .int .i64 0, .int .i64 m.ref, .int .i64 m.born, .string m.topic, .string m.tag, .string m.body, .slice A m.keys.length c], .int .i64 100, .string g, .int .i64 now] w fun e w' => ∃ A' c', e = .returned (.tuple #[.agg #[.int .i64 2, .int .i64 0, .int .i64 (now + 2), .int .i64 1, .int .i64 100, .int .i64 now, .string (ownB (B retryL) g), .string m.tag, .string m.body, .slice A' m.keys.length c'], .int .i64 0]) ∧ w'.ownsRow w.heap.size 9 1 (.slice A' m.keys.length c') m.keys.length (m.keys.map Value.string) ∧ Below w.heap.size w w' := by
  have h := again_any m A c 100 g now w hl hn hs hgz
  rw [again_0 m g now hg hk hr hm h0 h1] at h
  rw [hk, hr] at h
  refine h.mono ?_
  rintro e w' ⟨⟨v, rfl, A', c', rfl, hcc, hrow⟩, hb⟩
  exact ⟨A', c', rfl, hrow, hb⟩

theorem step_1 (m : Msg) (A : Option Addr) (c : Nat) (g : ByteArray) (now : Int) (w : World) (hl : Strs w A m.keys) (hn : m.keys.length * 16 ≤ 140737488355328) (hs : ∀ s ∈ m.keys, s.size ≤ 9223372036854775807) (hgz : g.size ≤ 9223372036854775800) (hg : okM m g = true) (h0 : 0 ≤ now) (h1 : now ≤ 4294967295) :
    Calls Try.prog 21 #[.agg #[.int .i64 3, .int .i64 0, .int .i64 (now + 2), .int .i64 1, .int .i64 100, .int .i64 (now + 2), .string (ownB (B retryL) g), .string m.tag, .string m.body, .slice A m.keys.length c], .int .i64 101, .string g, .int .i64 (now + 2)] w fun e w' => ∃ A' c', e = .returned (.tuple #[.agg #[.int .i64 2, .int .i64 0, .int .i64 (now + 6), .int .i64 2, .int .i64 101, .int .i64 (now + 2), .string (ownB (B retryL) g), .string m.tag, .string m.body, .slice A' m.keys.length c'], .int .i64 0]) ∧ w'.ownsRow w.heap.size 9 1 (.slice A' m.keys.length c') m.keys.length (m.keys.map Value.string) ∧ Below w.heap.size w w' := by
  have h := again_any (⟨3, 0, (now + 2), 1, 100, (now + 2), (ownB (B retryL) g), m.tag, m.body, m.keys⟩ : Msg) A c 101 g (now + 2) w hl hn hs hgz
  rw [again_1 m g now hg h0 h1] at h
  refine h.mono ?_
  rintro e w' ⟨⟨v, rfl, A', c', rfl, hcc, hrow⟩, hb⟩
  exact ⟨A', c', rfl, hrow, hb⟩

theorem step_2 (m : Msg) (A : Option Addr) (c : Nat) (g : ByteArray) (now : Int) (w : World) (hl : Strs w A m.keys) (hn : m.keys.length * 16 ≤ 140737488355328) (hs : ∀ s ∈ m.keys, s.size ≤ 9223372036854775807) (hgz : g.size ≤ 9223372036854775800) (hg : okM m g = true) (h0 : 0 ≤ now) (h1 : now ≤ 4294967295) :
    Calls Try.prog 21 #[.agg #[.int .i64 3, .int .i64 0, .int .i64 (now + 6), .int .i64 2, .int .i64 101, .int .i64 (now + 6), .string (ownB (B retryL) g), .string m.tag, .string m.body, .slice A m.keys.length c], .int .i64 102, .string g, .int .i64 (now + 6)] w fun e w' => ∃ A' c', e = .returned (.tuple #[.agg #[.int .i64 2, .int .i64 0, .int .i64 (now + 14), .int .i64 3, .int .i64 102, .int .i64 (now + 6), .string (ownB (B retryL) g), .string m.tag, .string m.body, .slice A' m.keys.length c'], .int .i64 0]) ∧ w'.ownsRow w.heap.size 9 1 (.slice A' m.keys.length c') m.keys.length (m.keys.map Value.string) ∧ Below w.heap.size w w' := by
  have h := again_any (⟨3, 0, (now + 6), 2, 101, (now + 6), (ownB (B retryL) g), m.tag, m.body, m.keys⟩ : Msg) A c 102 g (now + 6) w hl hn hs hgz
  rw [again_2 m g now hg h0 h1] at h
  refine h.mono ?_
  rintro e w' ⟨⟨v, rfl, A', c', rfl, hcc, hrow⟩, hb⟩
  exact ⟨A', c', rfl, hrow, hb⟩

theorem step_3 (m : Msg) (A : Option Addr) (c : Nat) (g : ByteArray) (now : Int) (w : World) (hl : Strs w A m.keys) (hn : m.keys.length * 16 ≤ 140737488355328) (hs : ∀ s ∈ m.keys, s.size ≤ 9223372036854775807) (hgz : g.size ≤ 9223372036854775800) (hg : okM m g = true) (h0 : 0 ≤ now) (h1 : now ≤ 4294967295) :
    Calls Try.prog 21 #[.agg #[.int .i64 3, .int .i64 0, .int .i64 (now + 14), .int .i64 3, .int .i64 102, .int .i64 (now + 14), .string (ownB (B retryL) g), .string m.tag, .string m.body, .slice A m.keys.length c], .int .i64 103, .string g, .int .i64 (now + 14)] w fun e w' => ∃ A' c', e = .returned (.tuple #[.agg #[.int .i64 2, .int .i64 0, .int .i64 (now + 30), .int .i64 4, .int .i64 103, .int .i64 (now + 14), .string (ownB (B retryL) g), .string m.tag, .string m.body, .slice A' m.keys.length c'], .int .i64 0]) ∧ w'.ownsRow w.heap.size 9 1 (.slice A' m.keys.length c') m.keys.length (m.keys.map Value.string) ∧ Below w.heap.size w w' := by
  have h := again_any (⟨3, 0, (now + 14), 3, 102, (now + 14), (ownB (B retryL) g), m.tag, m.body, m.keys⟩ : Msg) A c 103 g (now + 14) w hl hn hs hgz
  rw [again_3 m g now hg h0 h1] at h
  refine h.mono ?_
  rintro e w' ⟨⟨v, rfl, A', c', rfl, hcc, hrow⟩, hb⟩
  exact ⟨A', c', rfl, hrow, hb⟩

theorem step_4 (m : Msg) (A : Option Addr) (c : Nat) (g : ByteArray) (now : Int) (w : World) (hl : Strs w A m.keys) (hn : m.keys.length * 16 ≤ 140737488355328) (hs : ∀ s ∈ m.keys, s.size ≤ 9223372036854775807) (hgz : g.size ≤ 9223372036854775800) (hg : okM m g = true) (h0 : 0 ≤ now) (h1 : now ≤ 4294967295) :
    Calls Try.prog 21 #[.agg #[.int .i64 3, .int .i64 0, .int .i64 (now + 30), .int .i64 4, .int .i64 103, .int .i64 (now + 30), .string (ownB (B retryL) g), .string m.tag, .string m.body, .slice A m.keys.length c], .int .i64 104, .string g, .int .i64 (now + 30)] w fun e w' => ∃ A' c', e = .returned (.tuple #[.agg #[.int .i64 1, .int .i64 0, .int .i64 0, .int .i64 4, .int .i64 0, .int .i64 (now + 30), .string (ownB (B deadL) g), .string m.tag, .string m.body, .slice A' m.keys.length c'], .int .i64 0]) ∧ w'.ownsRow w.heap.size 9 1 (.slice A' m.keys.length c') m.keys.length (m.keys.map Value.string) ∧ Below w.heap.size w w' := by
  have h := again_any (⟨3, 0, (now + 30), 4, 103, (now + 30), (ownB (B retryL) g), m.tag, m.body, m.keys⟩ : Msg) A c 104 g (now + 30) w hl hn hs hgz
  rw [again_4 m g now hg h0 h1] at h
  refine h.mono ?_
  rintro e w' ⟨⟨v, rfl, A', c', rfl, hcc, hrow⟩, hb⟩
  exact ⟨A', c', rfl, hrow, hb⟩

theorem step_bad (m : Msg) (A : Option Addr) (c : Nat) (g : ByteArray) (now : Int) (w : World) (hl : Strs w A m.keys) (hn : m.keys.length * 16 ≤ 140737488355328) (hs : ∀ s ∈ m.keys, s.size ≤ 9223372036854775807) (hgz : g.size ≤ 9223372036854775800) (hg : okM m g = false ∨ mayM m = false) (hk : m.kind = 1) (hr : m.retry = 0) (h0 : 0 ≤ now) (h1 : now ≤ 4294967295) :
    Calls Try.prog 21 #[.agg #[.int .i64 m.kind, .int .i64 m.queue, .int .i64 m.due, .int .i64 m.retry, .int .i64 m.ref, .int .i64 m.born, .string m.topic, .string m.tag, .string m.body, .slice A m.keys.length c], .int .i64 100, .string g, .int .i64 now] w fun e w' => ∃ A' c' n, (n != 0) = true ∧ e = .returned (.tuple #[.agg #[.int .i64 0, .int .i64 0, .int .i64 0, .int .i64 0, .int .i64 0, .int .i64 0, .string ⟨#[]⟩, .string ⟨#[]⟩, .string ⟨#[]⟩, .slice A' 0 c'], .int .i64 n]) ∧ Below w.heap.size w w' := by
  have h := again_any m A c 100 g now w hl hn hs hgz
  obtain ⟨n, hn0, e0⟩ := again_bad m g now hk hg h0 h1
  rw [e0] at h
  refine h.mono ?_
  rintro e w' ⟨⟨v, rfl, A', c', rfl, hcc, hrow⟩, hb⟩
  exact ⟨A', c', n, hn0, rfl, hb⟩

end Go.Proofs.Ytnlpohcnlmdocaa
