/- Numbers', texts' and lists' bytes: octet.Num, Text, List. -/
import Derived.Test.YtnlpohcnlmdocaaGreatBuilder
import Derived.Test.YtnlpohcnlmdocaaGreatPut
import Derived.Test.YtnlpohcnlmdocaaGreatNums
import Derived.Test.YtnlpohcnlmdocaaGreatAll
namespace Go.Proofs.YtnlpohcnlmdocaaGreat
open Go.Shelf Go.RowKit
set_option linter.unusedVariables false
set_option linter.unusedSimpArgs false

theorem row_later {w w' : World} {b0 : Nat} {e : TypeId} {v : Value} {n : Nat} {xs : List Value} (h : w.ownsRow b0 e 1 v n xs) (hb : Below w.heap.size w w') : w'.ownsRow b0 e 1 v n xs := by
  refine ⟨h.1, ?_⟩
  rcases h.2 with h2 | ⟨k, cap, cur, hv, hbk, hh, r⟩
  · exact .inl h2
  · exact .inr ⟨k, cap, cur, hv, hbk, (hb.block k (Array.getElem?_eq_some_iff.1 hh).1).trans hh, r⟩
theorem builderAt_later {T e : TypeId} {B b : Nat} {p : Value} {bs : List Value} {w w' : World} (h : Lib.BuilderAt T e B b p bs w) (hb : Below w.heap.size w w') : Lib.BuilderAt T e B b p bs w' := by
  obtain ⟨h1, v, h2, h3, h4⟩ := h
  exact ⟨h1, v, (hb.block b (Array.getElem?_eq_some_iff.1 h2).1).trans h2, row_later h3 hb, h4⟩
theorem isBuilder_later {T e : TypeId} {B b : Nat} {bs : List Value} {w w' : World} (h : Lib.IsBuilder T e B b bs w) (hb : Below w.heap.size w w') : Lib.IsBuilder T e B b bs w' :=
  h.imp (fun h => builderAt_later h hb) (fun h => builderAt_later h hb)
theorem str_B (l : List UInt8) : Lib.strCells (B l) = Lib.byteCells l := rfl
theorem byteCells_app (l m : List UInt8) : Lib.byteCells (l ++ m) = Lib.byteCells l ++ Lib.byteCells m := by simp [Lib.byteCells]
theorem byteCells_len (l : List UInt8) : (Lib.byteCells l).length = l.length := by simp [Lib.byteCells]
theorem numsL_len (n : Nat) : ∀ l : List Nat, (numsL n l).length = n * l.length
  | [] => rfl
  | x :: l => by
    have := numsL_len n l
    unfold numsL at *
    simp only [List.map_cons, List.flatten_cons, List.length_append, numL_len, List.length_cons]
    rw [this, Nat.mul_succ]; omega

def Nats (w : World) (A : Option Addr) (l : List Nat) : Prop := Ints w A (l.map fun x : Nat => (x : Int))
theorem shr_none {n x : Nat} (hn : n ≤ 7) (h : x < 256 ^ n) : (x : Int) / 2 ^ (8 * n) = 0 := by
  have e : (2 : Int) ^ (8 * n) = ((256 ^ n : Nat) : Int) := by
    rw [show (256 : Nat) = 2 ^ 8 from rfl, ← Nat.pow_mul]; push_cast; rfl
  rw [e]; exact Int.ediv_eq_zero_of_lt (by omega) (by omega)

set_option maxRecDepth 100000 in
set_option maxHeartbeats 4000000 in
theorem oNum_any (n : Nat) (A : Option Addr) (c : Nat) (l : List Nat) (w : World) (h1 : 1 ≤ n) (h7 : n ≤ 7) (hl : Nats w A l) (hn : l.length ≤ 1000) (hx : ∀ x ∈ l, x < 256 ^ n) :
    Calls Tryz.prog 28 #[.int .i64 n, .slice A l.length c] w fun e w' => e = .returned (.tuple #[.string (B (numsL n l)), .int .i64 0]) ∧ Below w.heap.size w w' := by
  have HL := Lib.hid hl
  have HX := Lib.hid hx
  clear hl hx
  have d1 : decide ((n : Int) < 1) = false := decide_eq_false (by omega)
  have d7 : decide ((7 : Int) < (n : Int)) = false := decide_eq_false (by omega)
  have HB0 := Lib.hid (show Lib.IsBuilder 80 5 w.heap.size w.heap.size (Lib.byteCells (numsL n (l.take 0))) (w.alloc (.cells #[.pointer none, .slice none 0 0] 80)) from Lib.fresh_isBuilder _ _ w)
  have HB1 := Lib.hid (show Below w.heap.size w (w.alloc (.cells #[.pointer none, .slice none 0 0] 80)) from balloc (Below.refl _ _))
  go_enter Tryz.func28, Tryz.ntmps28
  go_wp2
  go_loopw [17] (fun i wr => ∃ k : Nat, k ≤ l.length ∧ i = .int .i64 k ∧ Hid (Lib.IsBuilder 80 5 w.heap.size w.heap.size (Lib.byteCells (numsL n (l.take k))) wr) ∧ Hid (Below w.heap.size w wr)) (fun i _ => l.length - (intOf i).toNat)
  case atStart => exact ⟨0, Nat.zero_le _, rfl, HB0, HB1⟩
  case round =>
    obtain ⟨k, hk, rfl, HBd, HB⟩ := hrel
    by_cases hlt : k < l.length
    · obtain ⟨b, o, rfl, hc⟩ := (HL.out.below HB.out) (by intro e; simp at e; subst e; simp at hlt)
      have hck := hc k (by simpa using hlt)
      simp only [List.getElem_map] at hck
      have hxk := HX.out l[k] (List.getElem_mem hlt)
      have HT := Lib.hid (show numsL n (l.take (k + 1)) = numsL n (l.take k) ++ numL n l[k] by rw [List.take_succ_eq_append_getElem hlt, numsL_snoc])
      generalize l[k] = x at *
      clear hc
      have hs := shr_none h7 hxk
      have hx9 : x ≤ 9223372036854775807 := by
        have : 256 ^ n ≤ 256 ^ 7 := Nat.pow_le_pow_right (by omega) h7
        omega
      have dx : decide ((x : Int) < 0) = false := decide_eq_false (by omega)
      have hlen : (Lib.byteCells (numsL n (l.take k))).length + (B (numL n x)).size ≤ 140737488355328 := by
        rw [byteCells_len, numsL_len, B_size, numL_len, List.length_take]
        have : n * min k l.length ≤ 7 * 1000 := Nat.mul_le_mul h7 (by omega)
        omega
      go_wp2_with (first
        | (go_at_call 55; refine (put_any n x _ h7 hx9).mono ?_; rintro e w1 ⟨rfl, hb⟩
           have HBd1 := Lib.hid (isBuilder_later HBd.out hb)
           have HB1 := Lib.hid (bstep HB.out hb))
        | (go_at_call 54; refine (writeString_any w.heap.size w.heap.size _ (B (numL n x)) _ HBd1.out hlen HB1.out.size).mono ?_; rintro e w2 ⟨rfl, hbd, hb⟩
           have HBd2 := Lib.hid (show Lib.IsBuilder 80 5 w.heap.size w.heap.size (Lib.byteCells (numsL n (l.take (k + 1)))) w2 from Or.inr (by rw [HT.out, byteCells_app]; exact hbd))
           have HB2 := Lib.hid (HB1.out.trans hb)))
      go_roundw
      case rel => exact ⟨k + 1, by omega, by go_num, HBd2, HB2⟩
      case measure => simp [intOf]; omega
    · obtain rfl : k = l.length := by omega
      have HT := Lib.hid (show l.take l.length = l from List.take_length)
      go_wp2_with (first
        | (go_at_call 56; refine (Tryz.Builder_String_any w.heap.size w.heap.size _ _ HBd.out HB.out.size).mono ?_; rintro e w1 ⟨rfl, hb⟩
           have HB1 := Lib.hid (HB.out.trans hb)))
      go_ret2
      exact ⟨rfl, HB1.out⟩

set_option maxRecDepth 100000 in
set_option maxHeartbeats 4000000 in
theorem oText_any (A : Option Addr) (c : Nat) (l : List ByteArray) (w : World) (hl : Strs w A l) (hn : l.length ≤ 1000) (hx : ∀ x ∈ l, x.size ≤ 65535) :
    Calls Tryz.prog 52 #[.slice A l.length c] w fun e w' => e = .returned (.tuple #[.string (B (textsL (l.map L))), .int .i64 0]) ∧ Below w.heap.size w w' := by
  have HL := Lib.hid hl
  have HX := Lib.hid hx
  clear hl hx
  have HB0 := Lib.hid (show Lib.IsBuilder 80 5 w.heap.size w.heap.size (Lib.byteCells (textsL ((l.take 0).map L))) (w.alloc (.cells #[.pointer none, .slice none 0 0] 80)) from Lib.fresh_isBuilder _ _ w)
  have HB1 := Lib.hid (show Below w.heap.size w (w.alloc (.cells #[.pointer none, .slice none 0 0] 80)) from balloc (Below.refl _ _))
  go_enter Tryz.func52, Tryz.ntmps52
  go_wp2
  go_loopw [9] (fun i wr => ∃ k : Nat, k ≤ l.length ∧ i = .int .i64 k ∧ Hid (Lib.IsBuilder 80 5 w.heap.size w.heap.size (Lib.byteCells (textsL ((l.take k).map L))) wr) ∧ Hid ((textsL ((l.take k).map L)).length ≤ k * 65537) ∧ Hid (Below w.heap.size w wr)) (fun i _ => l.length - (intOf i).toNat)
  case atStart => exact ⟨0, Nat.zero_le _, rfl, HB0, Nat.zero_le _, HB1⟩
  case round =>
    obtain ⟨k, hk, rfl, HBd, HN, HB⟩ := hrel
    by_cases hlt : k < l.length
    · obtain ⟨b, o, rfl, hc⟩ := (HL.out.below HB.out) (by intro e; subst e; simp at hlt)
      have hck := hc k hlt
      have hxk := HX.out l[k] (List.getElem_mem hlt)
      have HT := Lib.hid (show textsL ((l.take (k + 1)).map L) = textsL ((l.take k).map L) ++ textL (L l[k]) by rw [List.take_succ_eq_append_getElem hlt, List.map_append, List.map_cons, List.map_nil, textsL_snoc])
      generalize l[k] = x at *
      clear hc
      have d0 : decide ((65535 : Int) < (x.size : Int)) = false := decide_eq_false (by omega)
      have hcat : (B (numL 2 x.size)).size + x.size ≤ 9223372036854775807 := by rw [B_size, numL_len]; omega
      have hz : (B (numL 2 x.size) ++ x).size = 2 + x.size := by rw [ByteArray.size_append, B_size, numL_len]
      have HZ := Lib.hid hz
      clear hz
      have hlen : (Lib.byteCells (textsL ((l.take k).map L))).length + (B (numL 2 x.size) ++ x).size ≤ 140737488355328 := by
        rw [byteCells_len, HZ.out]; have := HN.out; omega
      have HN2 : (textsL ((l.take (k + 1)).map L)).length ≤ (k + 1) * 65537 := by
        rw [HT.out, List.length_append, textL, List.length_append, numL_len, L_len]; have := HN.out; omega
      have HC := Lib.hid (show Lib.strCells (B (numL 2 x.size) ++ x) = Lib.byteCells (textL (L x)) by
        show Lib.byteCells (L (B (numL 2 x.size) ++ x)) = _
        rw [L_app, L_B, textL, L_len])
      go_wp2_with (first
        | (go_at_call 55; refine (put_any 2 x.size _ (by omega) (by omega)).mono ?_; rintro e w1 ⟨rfl, hb⟩
           have HBd1 := Lib.hid (isBuilder_later HBd.out hb)
           have HB1 := Lib.hid (bstep HB.out hb))
        | (go_at_call 54; refine (writeString_any w.heap.size w.heap.size _ (B (numL 2 x.size) ++ x) _ HBd1.out hlen HB1.out.size).mono ?_; rintro e w2 ⟨rfl, hbd, hb⟩
           have HBd2 := Lib.hid (show Lib.IsBuilder 80 5 w.heap.size w.heap.size (Lib.byteCells (textsL ((l.take (k + 1)).map L))) w2 from Or.inr (by rw [HT.out, byteCells_app, ← HC.out]; exact hbd))
           have HB2 := Lib.hid (HB1.out.trans hb)))
      go_roundw
      case rel => exact ⟨k + 1, by omega, by go_num, HBd2, HN2, HB2⟩
      case measure => simp [intOf]; omega
    · obtain rfl : k = l.length := by omega
      have HT := Lib.hid (show l.take l.length = l from List.take_length)
      go_wp2_with (first
        | (go_at_call 56; refine (Tryz.Builder_String_any w.heap.size w.heap.size _ _ HBd.out HB.out.size).mono ?_; rintro e w1 ⟨rfl, hb⟩
           have HB1 := Lib.hid (HB.out.trans hb)))
      go_ret2
      exact ⟨rfl, HB1.out⟩

theorem textsL_le : ∀ (l : List ByteArray), (∀ x ∈ l, x.size ≤ 65535) → (textsL (l.map L)).length ≤ l.length * 65537
  | [], _ => Nat.zero_le _
  | x :: l, h => by
    have h1 := textsL_le l (fun y hy => h y (by simp [hy]))
    have h2 := h x (by simp)
    have e : textsL ((x :: l).map L) = textL (L x) ++ textsL (l.map L) := rfl
    rw [e, List.length_append, textL, List.length_append, numL_len, L_len, List.length_cons]; omega

set_option maxRecDepth 100000 in
set_option maxHeartbeats 4000000 in
theorem oList_any (A : Option Addr) (c : Nat) (l : List ByteArray) (w : World) (hl : Strs w A l) (hn : l.length ≤ 255) (hx : ∀ x ∈ l, x.size ≤ 65535) :
    Calls Tryz.prog 53 #[.slice A l.length c] w fun e w' => e = .returned (.tuple #[.string (B (listL (l.map L))), .int .i64 0]) ∧ Below w.heap.size w w' := by
  have hT := oText_any A c l w hl (by omega) hx
  have d0 : decide ((255 : Int) < (l.length : Int)) = false := decide_eq_false (by omega)
  have hcat : (B (numL 1 l.length)).size + (B (textsL (l.map L))).size ≤ 9223372036854775807 := by
    rw [B_size, B_size, numL_len]; have := textsL_le l hx; omega
  have HC := Lib.hid (show B (numL 1 l.length) ++ B (textsL (l.map L)) = B (listL (l.map L)) from L_inj (by rw [L_app, L_B, L_B, L_B, listL, List.length_map]))
  clear hl hx
  go_enter Tryz.func53, Tryz.ntmps53
  go_wp2_with (first
    | (go_at_call 52; refine hT.mono ?_; rintro e w1 ⟨rfl, hb⟩)
    | (go_at_call 55; refine (put_any 1 l.length _ (by omega) (by omega)).mono ?_; rintro e w2 ⟨rfl, hb2⟩))
  go_ret2
  exact ⟨by rw [HC.out]; rfl, bstep hb hb2⟩

end Go.Proofs.YtnlpohcnlmdocaaGreat
