/- Words of this work: endings, lists of texts in memory, plain names. Nothing of the program stands here but names of numbers. -/
import Derived.Below
import Derived.Deep.Draws
import Derived.WalkKit
import Derived.KernelRfl
import Derived.RowKit3
import Derived.Lib.Hide
import Derived.Lib.Split
import Derived.Lib.IndexBytes
import Derived.Lib.Strings
import Derived.Shelf.GgClosure.StringsIndexFuncTop
namespace Go.Proofs.Ytnlpohcnlmdocaa
open Go.RowKit

theorem ret_bool {a b : Bool} (h : a = b) : Ending.returned (.bool a) = .returned (.bool b) := by rw [h]
theorem ret_int {k : IntKind} {a b : Int} (h : a = b) : Ending.returned (.int k a) = .returned (.int k b) := by rw [h]
theorem ret_str {a b : ByteArray} (h : a = b) : Ending.returned (.string a) = .returned (.string b) := by rw [h]

theorem ba_ext {a b : ByteArray} (h : a.data.toList = b.data.toList) : a = b := by
  cases a with | mk x => cases b with | mk y => congr; exact Array.toList_inj.mp h

/-- What lay ahead of a call that leaves it alone reads as before. -/
theorem bcell {W w1 : World} (hb : Below W.heap.size W w1) : (∀ b o, b < W.heap.size → w1.cell? ⟨b, o, none⟩ = W.cell? ⟨b, o, none⟩) ∧ (∀ b o, b < W.heap.size → w1.frozen? ⟨b, o, none⟩ = W.frozen? ⟨b, o, none⟩) :=
  ⟨fun b o h => hb.cell (p := ⟨b, o, none⟩) h, fun b o h => hb.frozen (p := ⟨b, o, none⟩) h⟩

theorem bstep {w a b : World} (h : Below w.heap.size w a) (hb : Below a.heap.size a b) : Below w.heap.size w b := h.trans (hb.mono h.size)
theorem balloc {w a : World} {o : Obj} (h : Below w.heap.size w a) : Below w.heap.size w (a.alloc o) := h.alloc h.size _
theorem bdrew {w a : World} (h : Below w.heap.size w a) : Below w.heap.size w a.drew := h.drew
theorem bdrewN {w a : World} {n : Nat} (h : Below w.heap.size w a) : Below w.heap.size w (a.drewN n) := ⟨h.os, h.tape, h.output, h.size, h.block⟩
theorem bset {w a : World} {p : Addr} {u : Value} (h : Below w.heap.size w a) (hp : w.heap.size ≤ p.block) : Below w.heap.size w (a.setCell p u) := h.setCell hp u

/-- A byte that may stand in a plain name. -/
def signB (c : Int) : Bool := (decide (97 ≤ c) && decide (c ≤ 122)) || ((decide (48 ≤ c) && decide (c ≤ 57)) || decide (c = 45))
def signU (c : UInt8) : Bool := signB (c.toNat : Int)
def keyU (c : UInt8) : Bool := decide ((33 : Int) ≤ (c.toNat : Int)) && decide ((c.toNat : Int) ≤ 126)
/-- A plain name; a group; a key. -/
def plainL (l : List UInt8) : Bool := decide (1 ≤ l.length) && (decide (l.length ≤ 16) && l.all signU)
def groupL (l : List UInt8) : Bool := plainL l && decide (l.length ≤ 8)
def keyL (l : List UInt8) : Bool := decide (1 ≤ l.length) && (decide (l.length ≤ 16) && l.all keyU)
/-- A text's bytes, as a list. -/
def L (s : ByteArray) : List UInt8 := s.data.toList
theorem L_of (s : ByteArray) : s.toList = L s := ByteArray.toList_eq s
theorem L_len (s : ByteArray) : (L s).length = s.size := by simp [L]
theorem L_get (s : ByteArray) (i : Nat) (h : i < s.size) : (L s)[i]'(by rw [L_len]; exact h) = s[i] := rfl
theorem L_inj {a b : ByteArray} (h : L a = L b) : a = b := ba_ext h
theorem L_mk (l : List UInt8) : L ⟨l.toArray⟩ = l := rfl
theorem L_app (a b : ByteArray) : L (a ++ b) = L a ++ L b := by simp [L, ByteArray.data_append]
theorem L_empty (s : ByteArray) : s.toList.isEmpty = decide (s.size = 0) := by
  rw [L_of, Bool.eq_iff_iff, List.isEmpty_iff, decide_eq_true_iff, ← L_len]; exact List.length_eq_zero_iff.symm

theorem get!_eq (s : ByteArray) (i : Nat) (h : i < s.size) : s.get! i = s[i] := by
  show s.data[i]! = s.data[i]
  rw [getElem!_pos]

theorem signB_big {c : Int} (h : 128 ≤ c) : signB c = false := by
  unfold signB
  rw [decide_eq_false (show ¬ c ≤ 122 by omega), decide_eq_false (show ¬ c ≤ 57 by omega), decide_eq_false (show ¬ c = 45 by omega)]
  simp

theorem decode_small (s : ByteArray) (i : Nat) (h : i < s.size) (hb : s[i].toNat < 128) : Utf8.decode s i = (s[i].toNat, 1) := by
  unfold Utf8.decode
  simp only [Nat.add_zero, get!_eq s i h]
  rw [if_pos hb]

theorem decode_big (s : ByteArray) (i : Nat) (h : i < s.size) (hb : ¬ s[i].toNat < 128) : 128 ≤ (Utf8.decode s i).1 := by
  unfold Utf8.decode
  simp only [Nat.add_zero, get!_eq s i h]
  rw [if_neg hb]
  repeat' split
  all_goals (simp_all [Utf8.runeError]; try omega)

theorem decode_sign (s : ByteArray) (i : Nat) (h : i < s.size) : signB ((Utf8.decode s i).1 : Int) = signU s[i] := by
  unfold signU
  by_cases hb : s[i].toNat < 128
  · rw [decode_small s i h hb]
  · have := decode_big s i h hb
    rw [signB_big (by omega), signB_big (by omega)]

theorem signU_small {c : UInt8} (h : signU c = true) : c.toNat < 128 := by
  rcases Nat.lt_or_ge c.toNat 128 with h1 | h1
  · exact h1
  · unfold signU at h; rw [signB_big (by omega)] at h; cases h

theorem idx_sign (s : ByteArray) : ∀ (f pos : Nat), s.size ≤ pos + f → (decide (Lib.idxFuncFrom (fun r => !signB (r : Int)) true s f pos < 0) = ((L s).drop pos).all signU)
  | 0, pos, h => by
    rw [List.drop_of_length_le (by rw [L_len]; omega)]; simp [Lib.idxFuncFrom]
  | f + 1, pos, h => by
    unfold Lib.idxFuncFrom
    by_cases hp : pos < s.size
    · have hd : (L s).drop pos = s[pos] :: (L s).drop (pos + 1) := by
        rw [List.drop_eq_getElem_cons (by rw [L_len]; exact hp)]; rfl
      rw [if_pos hp, hd, List.all_cons, decode_sign s pos hp]
      by_cases hs : signU s[pos] = true
      · rw [hs, if_neg (by decide), decode_small s pos hp (signU_small hs), idx_sign s f (pos + 1) (by omega)]; rfl
      · have hs' : signU s[pos] = false := by simpa using hs
        rw [hs', if_pos (by decide)]; simp
    · rw [if_neg hp, List.drop_of_length_le (by rw [L_len]; omega)]; simp

theorem idx_plain (s : ByteArray) : decide (Lib.idxFunc (fun r => !signB (r : Int)) true s < 0) = (L s).all signU := by
  have := idx_sign s s.size 0 (by omega)
  rw [List.drop_zero] at this
  exact this

theorem plain_none {s : ByteArray} (h : s.toList.isEmpty = true) : false = plainL (L s) := by
  rw [L_empty, decide_eq_true_iff] at h
  unfold plainL; rw [L_len, h]; rfl
theorem plain_long {s : ByteArray} (h : ¬ s.size ≤ 16) : false = plainL (L s) := by
  unfold plainL; rw [L_len, decide_eq_false h]; simp
theorem plain_some {s : ByteArray} (h : s.toList.isEmpty = false) (h2 : s.size ≤ 16) : decide (Lib.idxFunc (fun r => !signB (r : Int)) true s < 0) = plainL (L s) := by
  rw [L_empty, decide_eq_false_iff_not] at h
  unfold plainL; rw [L_len, decide_eq_true h2, decide_eq_true (show 1 ≤ s.size by omega), idx_plain]; rfl
theorem plain_bad {s : ByteArray} (k : Nat) (h : k < s.size) (hs : signU s[k] = false) : false = plainL (L s) := by
  have : (L s).all signU = false := by
    rw [List.all_eq_false]; exact ⟨s[k], by rw [← L_get s k h]; exact List.getElem_mem _, by simp [hs]⟩
  unfold plainL; rw [this]; simp
theorem plain_good {s : ByteArray} {k : Nat} (h : ¬ k < s.size) (hA : ((L s).take k).all signU = true) : plainL (L s) = (decide (1 ≤ s.size) && decide (s.size ≤ 16)) := by
  rw [List.take_of_length_le (by rw [L_len]; omega)] at hA
  unfold plainL; rw [hA, L_len]; simp
theorem take_all {s : ByteArray} {p : UInt8 → Bool} {k : Nat} (h : k < s.size) (hA : ((L s).take k).all p = true) (hk : p s[k] = true) : ((L s).take (k + 1)).all p = true := by
  rw [List.take_succ_eq_append_getElem (by rw [L_len]; exact h), List.all_append, hA, L_get s k h]; simp [hk]
theorem sign_cases (c : Int) : (signB c = true ∧ decide (97 ≤ c) = true ∧ decide (c ≤ 122) = true ∧ decide (48 ≤ c) = true ∧ decide (c ≤ 57) = false ∧ (c != 45) = true) ∨
    (signB c = true ∧ decide (97 ≤ c) = false ∧ decide (c ≤ 122) = true ∧ decide (48 ≤ c) = true ∧ decide (c ≤ 57) = true ∧ (c != 45) = true) ∨
    (signB c = true ∧ decide (97 ≤ c) = false ∧ decide (c ≤ 122) = true ∧ decide (48 ≤ c) = false ∧ decide (c ≤ 57) = true ∧ (c != 45) = false) ∨
    (signB c = false ∧ decide (97 ≤ c) = true ∧ decide (c ≤ 122) = false ∧ decide (48 ≤ c) = true ∧ decide (c ≤ 57) = false ∧ (c != 45) = true) ∨
    (signB c = false ∧ decide (97 ≤ c) = false ∧ decide (c ≤ 122) = true ∧ decide (48 ≤ c) = true ∧ decide (c ≤ 57) = false ∧ (c != 45) = true) ∨
    (signB c = false ∧ decide (97 ≤ c) = false ∧ decide (c ≤ 122) = true ∧ decide (48 ≤ c) = false ∧ decide (c ≤ 57) = true ∧ (c != 45) = true) ∨
    (signB c = false ∧ decide (97 ≤ c) = false ∧ decide (c ≤ 122) = true ∧ decide (48 ≤ c) = false ∧ decide (c ≤ 57) = true ∧ (c != 45) = true) := by
  unfold signB; simp; omega

theorem has_eq (s p : ByteArray) : ((s.extract 0 p.size).toList == p.toList) = Lib.hasPrefix (L s) (L p) := by
  have e : (s.extract 0 p.size).toList = (L s).take (L p).length := by
    rw [L_of, L_len]; exact Lib.extract_from_zero s p.size
  rw [e, L_of p, Bool.eq_iff_iff, beq_iff_eq]
  unfold Lib.hasPrefix
  rw [List.isPrefixOf_iff_prefix, List.prefix_iff_eq_take]
  exact eq_comm
theorem has_long {s p : ByteArray} (h : s.size < p.size) : Lib.hasPrefix (L s) (L p) = false := by
  rw [Bool.eq_false_iff]; intro e
  unfold Lib.hasPrefix at e
  rw [List.isPrefixOf_iff_prefix] at e
  have := e.length_le; rw [L_len, L_len] at this; omega
theorem has_size {s p : ByteArray} (h : Lib.hasPrefix (L s) (L p) = true) : p.size ≤ s.size := by
  rcases Nat.lt_or_ge s.size p.size with h1 | h1
  · rw [has_long h1] at h; cases h
  · exact h1
theorem L_from (s : ByteArray) (a : Nat) : L (s.extract a s.size) = (L s).drop a := Lib.extract_to_end s a
theorem L_upto (s : ByteArray) (a : Nat) : L (s.extract 0 a) = (L s).take a := Lib.extract_from_zero s a

def retryL : List UInt8 := [37, 114, 101, 116, 114, 121, 37]
def deadL : List UInt8 := [37, 100, 101, 97, 100, 37]
/-- The group of a topic of the broker's own. -/
def ofL (l : List UInt8) : Option (List UInt8) :=
  if Lib.hasPrefix l retryL = true ∧ groupL (l.drop 7) = true then some (l.drop 7)
  else if Lib.hasPrefix l deadL = true ∧ groupL (l.drop 6) = true then some (l.drop 6) else none
def topicL (l : List UInt8) : Bool := (ofL l).isSome || plainL l
def tagL (l : List UInt8) : Bool := l.isEmpty || plainL l
def B (l : List UInt8) : ByteArray := ⟨l.toArray⟩
theorem L_B (l : List UInt8) : L (B l) = l := rfl
theorem B_L (s : ByteArray) : B (L s) = s := L_inj rfl
theorem B_size (l : List UInt8) : (B l).size = l.length := by rw [← L_len, L_B]
theorem group_pos {l : List UInt8} (h : groupL l = true) : l ≠ [] := by
  intro e; subst e; cases h
theorem of_pos {l g : List UInt8} (h : ofL l = some g) : groupL g = true := by
  unfold ofL at h
  split at h
  · rename_i h1; cases h; exact h1.2
  · split at h
    · rename_i h1; cases h; exact h1.2
    · cases h

theorem key_cases (c : Int) : (decide (c < 33) = true ∧ (decide (33 ≤ c) && decide (c ≤ 126)) = false) ∨ (decide (c < 33) = false ∧ decide (126 < c) = true ∧ (decide (33 ≤ c) && decide (c ≤ 126)) = false) ∨
    (decide (c < 33) = false ∧ decide (126 < c) = false ∧ (decide (33 ≤ c) && decide (c ≤ 126)) = true) := by
  simp; omega
theorem key_bad {s : ByteArray} (k : Nat) (h : k < s.size) (hs : keyU s[k] = false) : false = keyL (L s) := by
  have : (L s).all keyU = false := by
    rw [List.all_eq_false]; exact ⟨s[k], by rw [← L_get s k h]; exact List.getElem_mem _, by simp [hs]⟩
  unfold keyL; rw [this]; simp
theorem key_good {s : ByteArray} {k : Nat} (h : ¬ k < s.size) (hA : ((L s).take k).all keyU = true) : keyL (L s) = (decide (1 ≤ s.size) && decide (s.size ≤ 16)) := by
  rw [List.take_of_length_le (by rw [L_len]; omega)] at hA
  unfold keyL; rw [hA, L_len]; simp
theorem key_none {s : ByteArray} (h : s.toList.isEmpty = true) : false = keyL (L s) := by
  rw [L_empty, decide_eq_true_iff] at h
  unfold keyL; rw [L_len, h]; rfl
theorem key_long {s : ByteArray} (h : ¬ s.size ≤ 16) : false = keyL (L s) := by
  unfold keyL; rw [L_len, decide_eq_false h]; simp

/-- Nothing but draws. -/
def Drn (w w' : World) : Prop := ∃ q, w' = w.drewN q
theorem drewN_add (w : World) (a b : Nat) : (w.drewN a).drewN b = w.drewN (a + b) := by simp [World.drewN, Nat.add_assoc]
theorem Drn.refl (w : World) : Drn w w := ⟨0, rfl⟩
theorem Drn.more {w w' : World} (h : Drn w w') (q : Nat) : Drn w (w'.drewN q) := by
  obtain ⟨n, rfl⟩ := h; exact ⟨n + q, drewN_add _ _ _⟩
theorem Drn.of (w : World) (q : Nat) : Drn w (w.drewN q) := ⟨q, rfl⟩
theorem Drn.below {w w' : World} (h : Drn w w') : Below w.heap.size w w' := by
  obtain ⟨n, rfl⟩ := h; exact bdrewN (Below.refl _ _)

end Go.Proofs.Ytnlpohcnlmdocaa
