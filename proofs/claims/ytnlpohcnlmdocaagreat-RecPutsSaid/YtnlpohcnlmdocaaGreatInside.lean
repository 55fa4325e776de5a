/- What is sealed of a record: rec.inside. -/
import Derived.Test.YtnlpohcnlmdocaaGreatONum
import Derived.Test.YtnlpohcnlmdocaaGreatRight2
namespace Go.Proofs.YtnlpohcnlmdocaaGreat
open Go.Shelf Go.RowKit
set_option linter.unusedVariables false
set_option linter.unusedSimpArgs false

theorem strs_new (w : World) (l : List ByteArray) (t : TypeId) : Strs (w.alloc (.cells (l.map Value.string).toArray t)) (some ⟨w.heap.size, 0, none⟩) l := fun _ => by
  refine ⟨_, _, rfl, fun j hj => ?_⟩
  have h := World.alloc_heap_new w (.cells (l.map Value.string).toArray t)
  unfold World.cell?
  rw [h]
  simp [hj]

/-- What a record that may be has: numbers and texts that go into their bytes. -/
structure InR (m : Msg) : Prop where
  kind : 0 ≤ m.kind ∧ m.kind < 256
  queue : 0 ≤ m.queue ∧ m.queue < 256
  retry : 0 ≤ m.retry ∧ m.retry < 256
  born : 0 ≤ m.born ∧ m.born < 281474976710656
  due : 0 ≤ m.due ∧ m.due < 281474976710656
  ref : 0 ≤ m.ref ∧ m.ref < 281474976710656
  topic : m.topic.size ≤ 200
  tag : m.tag.size ≤ 200
  body : m.body.size ≤ 200
  keys : m.keys.length ≤ 3
  key : ∀ s ∈ m.keys, s.size ≤ 200

def insideL (m : Msg) : List UInt8 := numsL 1 [m.kind.toNat, m.queue.toNat, m.retry.toNat] ++ numsL 6 [m.born.toNat, m.due.toNat, m.ref.toNat] ++ textsL [L m.topic, L m.tag, L m.body] ++ listL (m.keys.map L)

theorem nats3 {w : World} {A : Option Addr} {a b c : Int} (ha : 0 ≤ a) (hb : 0 ≤ b) (hc : 0 ≤ c) (h : Ints w A [a, b, c]) : Nats w A [a.toNat, b.toNat, c.toNat] := by
  unfold Nats
  simp only [List.map_cons, List.map_nil, Int.toNat_of_nonneg ha, Int.toNat_of_nonneg hb, Int.toNat_of_nonneg hc]; exact h

theorem insideL_len {m : Msg} (h : InR m) : (insideL m).length ≤ 2000 := by
  have h1 := textsL_le [m.topic, m.tag, m.body] (fun x hx => by have := h.topic; have := h.tag; have := h.body; simp at hx; rcases hx with rfl | rfl | rfl <;> omega)
  have e : ∀ (l : List ByteArray), (∀ x ∈ l, x.size ≤ 200) → (textsL (l.map L)).length ≤ l.length * 202 := by
    intro l
    induction l with
    | nil => intro _; exact Nat.zero_le _
    | cons x l ih =>
      intro hx
      have h1 := ih (fun y hy => hx y (by simp [hy]))
      have h2 := hx x (by simp)
      have e : textsL ((x :: l).map L) = textL (L x) ++ textsL (l.map L) := rfl
      rw [e, List.length_append, textL, List.length_append, numL_len, L_len, List.length_cons]; omega
  have h2 := e m.keys h.key
  have h3 := e [m.topic, m.tag, m.body] (fun x hx => by have := h.topic; have := h.tag; have := h.body; simp at hx; rcases hx with rfl | rfl | rfl <;> omega)
  have hk := h.keys
  unfold insideL
  rw [List.length_append, List.length_append, List.length_append, numsL_len, numsL_len, listL, List.length_append, numL_len]
  have e3 : textsL [L m.topic, L m.tag, L m.body] = textsL ([m.topic, m.tag, m.body].map L) := rfl
  rw [e3]
  simp only [List.length_cons, List.length_nil] at h3 ⊢
  omega

set_option maxRecDepth 100000 in
set_option maxHeartbeats 4000000 in
theorem inside_any (m : Msg) (A : Option Addr) (c : Nat) (w : World) (hl : Strs w A m.keys) (hm : InR m) :
    Calls Tryz.prog 27 #[.agg #[.int .i64 m.kind, .int .i64 m.queue, .int .i64 m.due, .int .i64 m.retry, .int .i64 m.ref, .int .i64 m.born, .string m.topic, .string m.tag, .string m.body, .slice A m.keys.length c]] w fun e w' => e = .returned (.string (B (insideL m))) ∧ Below w.heap.size w w' := by
  have HL := Lib.hid hl
  have HM := Lib.hid hm
  clear hl hm
  have HZ := Lib.hid (show (B (numsL 1 [m.kind.toNat, m.queue.toNat, m.retry.toNat]) ++ B (numsL 6 [m.born.toNat, m.due.toNat, m.ref.toNat]) ++ B (textsL [L m.topic, L m.tag, L m.body]) ++ B (listL (m.keys.map L))) = B (insideL m) from L_inj (by simp only [L_app, L_B, insideL]))
  have hz := insideL_len HM.out
  unfold insideL at hz
  simp only [List.length_append, List.append_assoc] at hz
  have z1 : (B (numsL 1 [m.kind.toNat, m.queue.toNat, m.retry.toNat])).size + (B (numsL 6 [m.born.toNat, m.due.toNat, m.ref.toNat])).size ≤ 9223372036854775807 := by rw [B_size, B_size]; omega
  have z2 : (B (numsL 1 [m.kind.toNat, m.queue.toNat, m.retry.toNat]) ++ B (numsL 6 [m.born.toNat, m.due.toNat, m.ref.toNat])).size + (B (textsL [L m.topic, L m.tag, L m.body])).size ≤ 9223372036854775807 := by rw [ByteArray.size_append, B_size, B_size, B_size]; omega
  have z3 : (B (numsL 1 [m.kind.toNat, m.queue.toNat, m.retry.toNat]) ++ B (numsL 6 [m.born.toNat, m.due.toNat, m.ref.toNat]) ++ B (textsL [L m.topic, L m.tag, L m.body])).size + (B (listL (m.keys.map L))).size ≤ 9223372036854775807 := by rw [ByteArray.size_append, ByteArray.size_append, B_size, B_size, B_size, B_size]; omega
  clear hz
  have HB0 : Below w.heap.size w (w.alloc (.cells #[.int .i64 m.kind, .int .i64 m.queue, .int .i64 m.due, .int .i64 m.retry, .int .i64 m.ref, .int .i64 m.born, .string m.topic, .string m.tag, .string m.body, .slice A m.keys.length c] 24)) := balloc (Below.refl _ _)
  have hb0 := Blk.new w 24 #[.int .i64 m.kind, .int .i64 m.queue, .int .i64 m.due, .int .i64 m.retry, .int .i64 m.ref, .int .i64 m.born, .string m.topic, .string m.tag, .string m.body, .slice A m.keys.length c]
  have n1 := nats3 HM.out.kind.1 HM.out.queue.1 HM.out.retry.1 (ints_new (w.alloc (.cells #[.int .i64 m.kind, .int .i64 m.queue, .int .i64 m.due, .int .i64 m.retry, .int .i64 m.ref, .int .i64 m.born, .string m.topic, .string m.tag, .string m.body, .slice A m.keys.length c] 24)) [m.kind, m.queue, m.retry] 3 (by simp))
  have hN1 := Lib.hid (oNum_any 1 _ 3 _ _ (by omega) (by omega) n1 (by simp) (by have := HM.out.kind; have := HM.out.queue; have := HM.out.retry; simp; omega))
  clear n1
  go_enter Tryz.func27, Tryz.ntmps27
  go_wp2_with fail
  refine (show Calls _ _ #[.int .i64 1, .slice _ 3 3] _ _ from by simpa using hN1.out).mono ?_
  rintro e w1 ⟨rfl, hb1⟩
  have HB1 : Below w.heap.size w w1 := (balloc HB0).trans (hb1.mono (by omega))
  have g1 := (hb0.later (balloc (o := .cells #[.int .i64 m.kind, .int .i64 m.queue, .int .i64 m.retry] 3) (Below.refl _ _))).below hb1 (by omega)
  have c1 := g1.cell
  have n2 := nats3 HM.out.born.1 HM.out.due.1 HM.out.ref.1 (ints_new w1 [m.born, m.due, m.ref] 3 (by simp))
  have hN2 := Lib.hid (oNum_any 6 _ 3 _ _ (by omega) (by omega) n2 (by simp) (by have := HM.out.born; have := HM.out.due; have := HM.out.ref; simp; omega))
  have hx1 := HB1.size
  clear n2 hN1
  go_wp2_with fail
  refine (show Calls _ _ #[.int .i64 6, .slice _ 3 3] _ _ from by simpa using hN2.out).mono ?_
  rintro e w2 ⟨rfl, hb2⟩
  have HB2 : Below w.heap.size w w2 := (balloc HB1).trans (hb2.mono (by omega))
  have g2 := (g1.later (balloc (o := .cells #[.int .i64 m.born, .int .i64 m.due, .int .i64 m.ref] 3) (Below.refl _ _))).below hb2 (by omega)
  clear c1 hN2
  have c2 := g2.cell
  have hx2 := HB2.size
  have hN3 := Lib.hid (oText_any _ 3 [m.topic, m.tag, m.body] _ (strs_new w2 [m.topic, m.tag, m.body] 9) (by simp) (by have := HM.out.topic; have := HM.out.tag; have := HM.out.body; simp; omega))
  go_wp2_with fail
  refine (show Calls _ _ #[.slice _ 3 3] _ _ from by simpa using hN3.out).mono ?_
  rintro e w3 ⟨rfl, hb3⟩
  have HB3 : Below w.heap.size w w3 := (balloc HB2).trans (hb3.mono (by omega))
  have g3 := (g2.later (balloc (o := .cells #[.string m.topic, .string m.tag, .string m.body] 9) (Below.refl _ _))).below hb3 (by omega)
  clear c2 hN3
  have c3 := g3.cell
  go_wp2_with fail
  refine (oList_any A c m.keys w3 (HL.out.below HB3) (by have := HM.out.keys; omega) (fun s hs => by have := HM.out.key s hs; omega)).mono ?_
  rintro e w4 ⟨rfl, hb4⟩
  clear c3
  go_wp2
  go_ret
  exact ⟨ret_str HZ.out, bstep HB3 hb4⟩

end Go.Proofs.YtnlpohcnlmdocaaGreat
