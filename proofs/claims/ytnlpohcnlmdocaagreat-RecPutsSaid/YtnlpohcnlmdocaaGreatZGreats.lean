/- What is too great for the statements: any list of records. -/
import Derived.Test.YtnlpohcnlmdocaaGreatOpened
namespace Go.Proofs.YtnlpohcnlmdocaaGreat
open Go.RowKit Go.Shelf
set_option linter.unusedSimpArgs false
set_option linter.unusedVariables false

def bigK (l : List ByteArray) : Bool := l.any fun s => decide ((100 : Int) < (s.size : Int))
theorem any_take {l : List ByteArray} {p : ByteArray → Bool} {k : Nat} (h : k < l.length) (hA : (l.take k).any p = false) (hk : p l[k] = false) : (l.take (k + 1)).any p = false := by
  rw [List.take_succ_eq_append_getElem h, List.any_append, hA]; simp [hk]
theorem any_bad {l : List ByteArray} {p : ByteArray → Bool} {k : Nat} (h : k < l.length) (hk : p l[k] = true) : l.any p = true := by
  rw [List.any_eq_true]; exact ⟨l[k], List.getElem_mem h, hk⟩
theorem any_good {l : List ByteArray} {p : ByteArray → Bool} {k : Nat} (h : ¬ k < l.length) (hA : (l.take k).any p = false) : l.any p = false := by
  rw [List.take_of_length_le (by omega)] at hA; exact hA

def greatM (m : Msg) : Bool := decide ((2000 : Int) < (m.body.size : Int)) || (decide ((100 : Int) < (m.topic.size : Int)) || (decide ((100 : Int) < (m.tag.size : Int)) || (decide ((10 : Int) < (m.keys.length : Int)) || bigK m.keys)))


abbrev MsgV := Msg × Option Addr × Nat
/-- A record at place k of block b. -/
def MsgAt (w : World) (b k : Nat) (x : MsgV) : Prop := (∀ i, i < 10 → w.cell? ⟨b, k * 10 + i, none⟩ = (msgCells x.1 x.2.1 x.2.2)[i]?) ∧ Strs w x.2.1 x.1.keys
theorem MsgAt.below {w w' : World} {b k : Nat} {x : MsgV} (h : MsgAt w b k x) (hb : Below w.heap.size w w') : MsgAt w' b k x := by
  have hlt : b < w.heap.size := by
    have := h.1 0 (by omega)
    exact cell_lt (v := .int .i64 x.1.kind) this
  exact ⟨fun i hi => (hb.cell (p := ⟨b, k * 10 + i, none⟩) hlt).trans (h.1 i hi), h.2.below hb⟩
def greats (l : List MsgV) : Bool := l.any fun x => greatM x.1
theorem anyv_take {l : List MsgV} {k : Nat} (h : k < l.length) (hA : (l.take k).any (fun x => greatM x.1) = false) (hk : greatM l[k].1 = false) : (l.take (k + 1)).any (fun x => greatM x.1) = false := by
  rw [List.take_succ_eq_append_getElem h, List.any_append, hA]; simp [hk]
theorem anyv_bad {l : List MsgV} {k : Nat} (h : k < l.length) (hk : greatM l[k].1 = true) : true = greats l := by
  unfold greats; symm; rw [List.any_eq_true]; exact ⟨l[k], List.getElem_mem h, hk⟩
theorem anyv_good {l : List MsgV} {k : Nat} (h : ¬ k < l.length) (hA : (l.take k).any (fun x => greatM x.1) = false) : false = greats l := by
  rw [List.take_of_length_le (by omega)] at hA; exact hA.symm

set_option maxRecDepth 100000 in
set_option maxHeartbeats 8000000 in
theorem greats_any (b : Nat) (cp : Nat) (l : List MsgV) (w : World) (hl : ∀ k (h : k < l.length), MsgAt w b k l[k]) (hn : l.length ≤ 1000) (hne : l ≠ []) :
    Calls Tryz.prog 5 #[.slice (some ⟨b, 0, none⟩) l.length cp] w fun e w' => e = .returned (.bool (greats l)) ∧ Below w.heap.size w w' := by
  have HL := Lib.hid hl
  clear hl
  have HB0 := Lib.hid (Below.refl w.heap.size w)
  go_enter Tryz.func5, Tryz.ntmps5
  go_wp2
  go_loopw [9] (fun i wr => ∃ k : Nat, k ≤ l.length ∧ i = .int .i64 k ∧ Hid ((l.take k).any (fun x => greatM x.1) = false) ∧ Hid (Below w.heap.size w wr)) (fun i _ => l.length - (intOf i).toNat)
  case atStart => exact ⟨0, Nat.zero_le _, rfl, rfl, HB0⟩
  case round =>
    obtain ⟨k, hk, rfl, HA, HB⟩ := hrel
    by_cases hlt : k < l.length
    · have hM := (HL.out k hlt).below HB.out
      obtain ⟨x, hx⟩ : ∃ x, l[k] = x := ⟨_, rfl⟩
      rw [hx] at hM
      have HX := Lib.hid hx
      obtain ⟨m, A, c⟩ := x
      obtain ⟨hc, hS⟩ := hM
      have c0 : wr.cell? ⟨b, k * 10, none⟩ = some (.int .i64 m.kind) := hc 0 (by omega)
      have c1 : wr.cell? ⟨b, k * 10 + 1, none⟩ = some (.int .i64 m.queue) := hc 1 (by omega)
      have c2 : wr.cell? ⟨b, k * 10 + 2, none⟩ = some (.int .i64 m.due) := hc 2 (by omega)
      have c3 : wr.cell? ⟨b, k * 10 + 3, none⟩ = some (.int .i64 m.retry) := hc 3 (by omega)
      have c4 : wr.cell? ⟨b, k * 10 + 4, none⟩ = some (.int .i64 m.ref) := hc 4 (by omega)
      have c5 : wr.cell? ⟨b, k * 10 + 5, none⟩ = some (.int .i64 m.born) := hc 5 (by omega)
      have c6 : wr.cell? ⟨b, k * 10 + 6, none⟩ = some (.string m.topic) := hc 6 (by omega)
      have c7 : wr.cell? ⟨b, k * 10 + 7, none⟩ = some (.string m.tag) := hc 7 (by omega)
      have c8 : wr.cell? ⟨b, k * 10 + 8, none⟩ = some (.string m.body) := hc 8 (by omega)
      have c9 : wr.cell? ⟨b, k * 10 + 9, none⟩ = some (.slice A m.keys.length c) := hc 9 (by omega)
      have HS := Lib.hid hS
      have HBa : Below w.heap.size w (wr.alloc (.cells #[.int .i64 m.kind, .int .i64 m.queue, .int .i64 m.due, .int .i64 m.retry, .int .i64 m.ref, .int .i64 m.born, .string m.topic, .string m.tag, .string m.body, .slice A m.keys.length c] 24)) := balloc HB.out
      clear hc hx hS
      rcases Bool.eq_false_or_eq_true (decide ((2000 : Int) < (m.body.size : Int))) with h0 | h0
      · have HK := Lib.hid (anyv_bad hlt (by rw [HX.out]; show greatM m = true; simp only [greatM, h0, Bool.false_or, Bool.true_or]))
        go_wp2
        go_ret
        exact ⟨ret_bool HK.out, HBa⟩
      rcases Bool.eq_false_or_eq_true (decide ((100 : Int) < (m.topic.size : Int))) with h1 | h1
      · have HK := Lib.hid (anyv_bad hlt (by rw [HX.out]; show greatM m = true; simp only [greatM, h0, h1, Bool.false_or, Bool.true_or]))
        go_wp2
        go_ret
        exact ⟨ret_bool HK.out, HBa⟩
      rcases Bool.eq_false_or_eq_true (decide ((100 : Int) < (m.tag.size : Int))) with h2 | h2
      · have HK := Lib.hid (anyv_bad hlt (by rw [HX.out]; show greatM m = true; simp only [greatM, h0, h1, h2, Bool.false_or, Bool.true_or]))
        go_wp2
        go_ret
        exact ⟨ret_bool HK.out, HBa⟩
      rcases Bool.eq_false_or_eq_true (decide ((10 : Int) < (m.keys.length : Int))) with h3 | h3
      · have HK := Lib.hid (anyv_bad hlt (by rw [HX.out]; show greatM m = true; simp only [greatM, h0, h1, h2, h3, Bool.false_or, Bool.true_or]))
        go_wp2
        go_ret
        exact ⟨ret_bool HK.out, HBa⟩
      have HR := Lib.hid (show greatM m = bigK m.keys by simp only [greatM, h0, h1, h2, h3, Bool.false_or])
      have hkl : m.keys.length ≤ 10 := by simp at h3; omega
      go_wp2
      go_loop [38] (fun i => ∃ q : Nat, q ≤ m.keys.length ∧ i = .int .i64 q ∧ Hid ((m.keys.take q).any (fun s => decide ((100 : Int) < (s.size : Int))) = false)) (fun i => m.keys.length - (intOf i).toNat)
      case atStart => exact ⟨0, Nat.zero_le _, rfl, rfl⟩
      case round =>
        obtain ⟨q, hq, rfl, HQ⟩ := hrel
        by_cases hqt : q < m.keys.length
        · obtain ⟨b', o, rfl, hc'⟩ := (HS.out.below (balloc (o := .cells #[.int .i64 m.kind, .int .i64 m.queue, .int .i64 m.due, .int .i64 m.retry, .int .i64 m.ref, .int .i64 m.born, .string m.topic, .string m.tag, .string m.body, .slice A m.keys.length c] 24) (Below.refl _ _))) (by intro e; rw [e] at hqt; simp at hqt)
          have hck := hc' q hqt
          obtain ⟨y, hy⟩ : ∃ y, m.keys[q] = y := ⟨_, rfl⟩
          rw [hy] at hck
          have HY := Lib.hid hy
          clear hc' hy
          rcases Bool.eq_false_or_eq_true (decide ((100 : Int) < (y.size : Int))) with hK | hK
          · have HK := Lib.hid (anyv_bad hlt (by rw [HX.out]; show greatM m = true; rw [HR.out]; exact any_bad (p := fun s => decide ((100 : Int) < (s.size : Int))) hqt (by rw [HY.out]; exact hK)))
            go_wp2
            go_ret
            exact ⟨ret_bool HK.out, HBa⟩
          · go_wp2
            go_round
            case rel => exact ⟨q + 1, by omega, by go_num, any_take hqt HQ.out (by rw [HY.out]; exact hK)⟩
            case measure => simp [intOf]; omega
        · have HK := Lib.hid (any_good hqt HQ.out)
          have HA2 := Lib.hid (anyv_take hlt HA.out (by rw [HX.out]; show greatM m = false; rw [HR.out]; exact HK.out))
          go_wp2
          go_roundw
          case rel => exact ⟨k + 1, by omega, by go_num, HA2, HBa⟩
          case measure => simp [intOf]; omega
    · have HK := Lib.hid (anyv_good hlt HA.out)
      go_wp2
      go_ret
      exact ⟨ret_bool HK.out, HB.out⟩

end Go.Proofs.YtnlpohcnlmdocaaGreat
