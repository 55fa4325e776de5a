/- A record of bytes: rec.Get. -/
import Derived.Test.YtnlpohcnlmdocaaGreatOpened
namespace Go.Proofs.YtnlpohcnlmdocaaGreat
open Go.Shelf Go.RowKit
set_option linter.unusedVariables false
set_option linter.unusedSimpArgs false

def noM : Msg := ⟨0, 0, 0, 0, 0, 0, ⟨#[]⟩, ⟨#[]⟩, ⟨#[]⟩, []⟩
def nilM (n : Nat) : Msg := ⟨0, 0, 0, 0, 0, 0, ⟨#[]⟩, ⟨#[]⟩, B (noughtsL n), []⟩
def GetPost (w : World) (m : Msg) (n : Int) (er : Int) (x : Ending) (w' : World) : Prop :=
  ∃ A c, x = .returned (.tuple #[.agg (msgCells m A c), .int .i64 n, .int .i64 er]) ∧ Strs w' A m.keys ∧ Below w.heap.size w w'


/-- What Get answers, of what was read: the error, how many bytes, the record. -/
def getT (h r : List UInt8) (n len : Nat) (st : RSt) : Int × Nat × Msg :=
  if h ≠ [] ∧ h ≠ [165] ∧ h ≠ [90] then (4, 0, noM) else if len < 3 then (3, 0, noM) else if n < 3 ∨ h = [90] ∧ 1024 < n then (4, 0, noM) else if st = none then (3, 0, noM)
  else if h = [90] then (if r = noughtsL r.length then (0, n, nilM n) else (4, 0, noM))
  else match unsealL r with
    | none => (5, 0, noM)
    | some m => if okL m = true then (0, n, (openedL m).1) else (4, 0, noM)
theorem getT_form {h r : List UInt8} {n len : Nat} {st : RSt} (h1 : h ≠ []) (h2 : h ≠ [165]) (h3 : h ≠ [90]) : getT h r n len st = (4, 0, noM) := by unfold getT; rw [if_pos ⟨h1, h2, h3⟩]
theorem getT_short {h r : List UInt8} {n len : Nat} {st : RSt} (h1 : ¬ (h ≠ [] ∧ h ≠ [165] ∧ h ≠ [90])) (h2 : len < 3) : getT h r n len st = (3, 0, noM) := by unfold getT; rw [if_neg h1, if_pos h2]
theorem getT_long {h r : List UInt8} {n len : Nat} {st : RSt} (h1 : ¬ (h ≠ [] ∧ h ≠ [165] ∧ h ≠ [90])) (h2 : ¬ len < 3) (h3 : n < 3 ∨ h = [90] ∧ 1024 < n) : getT h r n len st = (4, 0, noM) := by unfold getT; rw [if_neg h1, if_neg h2, if_pos h3]
theorem getT_cut {h r : List UInt8} {n len : Nat} (h1 : ¬ (h ≠ [] ∧ h ≠ [165] ∧ h ≠ [90])) (h2 : ¬ len < 3) (h3 : ¬ (n < 3 ∨ h = [90] ∧ 1024 < n)) : getT h r n len none = (3, 0, noM) := by unfold getT; rw [if_neg h1, if_neg h2, if_neg h3, if_pos rfl]
theorem getT_fill {r : List UInt8} {n len : Nat} {l : List UInt8} (h2 : ¬ len < 3) (h3 : ¬ n < 3) (h4 : ¬ 1024 < n) (h5 : r = noughtsL r.length) : getT [90] r n len (some l) = (0, n, nilM n) := by
  unfold getT; rw [if_neg (by simp), if_neg h2, if_neg (by simp; omega), if_neg (by simp), if_pos rfl, if_pos h5]
theorem getT_bad {r : List UInt8} {n len : Nat} {l : List UInt8} (h2 : ¬ len < 3) (h3 : ¬ n < 3) (h4 : ¬ 1024 < n) (h5 : ¬ r = noughtsL r.length) : getT [90] r n len (some l) = (4, 0, noM) := by
  unfold getT; rw [if_neg (by simp), if_neg h2, if_neg (by simp; omega), if_neg (by simp), if_pos rfl, if_neg h5]
theorem getT_seal {r : List UInt8} {n len : Nat} {l : List UInt8} (h2 : ¬ len < 3) (h3 : ¬ n < 3) : getT [165] r n len (some l) = (match unsealL r with
    | none => (5, 0, noM)
    | some m => if okL m = true then (0, n, (openedL m).1) else (4, 0, noM)) := by
  unfold getT; rw [if_neg (by simp), if_neg h2, if_neg (by simp; omega), if_neg (by simp), if_neg (by simp)]
def GetIs (w : World) (r : Int × Nat × Msg) (x : Ending) (w' : World) : Prop := GetPost w r.2.2 r.2.1 r.1 x w'


set_option maxRecDepth 100000 in
set_option maxHeartbeats 8000000 in
theorem get_form (b : Nat) (s : ByteArray) (w : World) (hs : s.size ≤ 140737488355328) (ht : TabAt w b) (hd rs : ByteArray) (st1 st2 st3 : RSt) (n : Nat) (E1 : takeR 1 (some (L s)) = (L hd, st1)) (E2 : numR 2 st1 = (n, st2)) (E3 : takeR (n - 3) st2 = (L rs, st3)) (c : UInt8) (hc : L hd = [c]) (c1 : c ≠ 165) (c2 : c ≠ 90) :
    Calls Tryz.prog 11 #[.pointer (some ⟨b, 0, none⟩), .string s] w (GetIs w (getT (L hd) (L rs) n s.size st3)) := by
  have hn : n < 65536 := by have := numR_lt (n := 2) (st := st1); rw [E2] at this; exact this
  have HT := Lib.hid ht
  have HB0 : Below w.heap.size w (w.alloc (.cells #[.int .i64 0, .int .i64 0, .int .i64 0, .int .i64 0, .int .i64 0, .int .i64 0, .string ⟨#[]⟩, .string ⟨#[]⟩, .string ⟨#[]⟩, .slice none 0 0] 24)) := balloc (Below.refl _ _)
  have b00 := Blk.new w 24 #[.int .i64 0, .int .i64 0, .int .i64 0, .int .i64 0, .int .i64 0, .int .i64 0, .string ⟨#[]⟩, .string ⟨#[]⟩, .string ⟨#[]⟩, .slice none 0 0]
  have F1 := Lib.hid E1
  have F2 := Lib.hid E2
  have F3 := Lib.hid E3
  have hmx : max ((n : Int) - 3) 0 = ((n - 3 : Nat) : Int) := by omega
  clear ht E1 E2 E3
  go_enter Tryz.func11, Tryz.ntmps11
  go_wp2_with fail
  refine (oNew_any s _ hs).mono ?_
  rintro x w0 ⟨rfl, hr0, hb0⟩
  have b0 := b00.later hb0
  have HB := bstep HB0 hb0
  clear b00 HB0 hb0
  obtain ⟨g, hg⟩ : ∃ g, (w.alloc (.cells #[.int .i64 0, .int .i64 0, .int .i64 0, .int .i64 0, .int .i64 0, .int .i64 0, .string ⟨#[]⟩, .string ⟨#[]⟩, .string ⟨#[]⟩, .slice none 0 0] 24)).heap.size = g := ⟨_, rfl⟩
  have hg2 : w.heap.size + 1 = g := by rw [← hg]; simp
  have hgw : w.heap.size < g := by omega
  rw [hg] at hr0 ⊢
  clear hg hg2
  have N1 := take_any 1 g _ w0 hr0 (by omega)
  rw [F1.out] at N1
  have M1 := Lib.hid N1
  clear N1
  go_wp2_with fail
  refine M1.out.mono ?_
  rintro x w1 ⟨rfl, hr1, hb1⟩
  dsimp only at hr1 ⊢
  rw [B_L]
  have b1 := b0.but hb1 (by omega)
  have HB1 := HB.trans (hb1.below (by omega))
  clear M1 hb1 b0 hr0
  have N2 := rNum_read 2 g _ w1 hr1 (by omega) (by omega)
  rw [F2.out] at N2
  have M2 := Lib.hid N2
  clear N2
  go_wp2_with fail
  refine M2.out.mono ?_
  rintro x w2 ⟨rfl, hr2, hb2⟩
  dsimp only at hr2 ⊢
  have b2 := b1.but hb2 (by omega)
  have HB2 := HB1.trans (hb2.below (by omega))
  clear M2 hb2 b1 hr1
  have N3 := take_any (n - 3) g _ w2 hr2 (by omega)
  rw [F3.out] at N3
  have M3 := Lib.hid N3
  clear N3
  go_wp2_with fail
  refine M3.out.mono ?_
  rintro x w3 ⟨rfl, hr3, hb3⟩
  dsimp only at hr3 ⊢
  rw [B_L]
  have b3 := b2.but hb3 (by omega)
  have HB3 := HB2.trans (hb3.below (by omega))
  clear M3 hb3 b2 hr2
  have HG := Lib.hid (show getT (L hd) (L rs) n s.size st3 = (4, 0, noM) from getT_form (by rw [hc]; simp) (by rw [hc]; simpa using c1) (by rw [hc]; simpa using c2))
  have e0 : hd.toList.isEmpty = false := by rw [L_of, hc]; rfl
  have e1 : (hd.toList == [165]) = false := by rw [L_of, hc]; simpa using c1
  have e2 : (hd.toList == [90]) = false := by rw [L_of, hc]; simpa using c2
  have e3 : ¬ hd.toList = [] := by rw [L_of, hc]; simp
  have e4 : ¬ hd.toList = [165] := by rw [L_of, hc]; simpa using c1
  have e5 : ¬ hd.toList = [90] := by rw [L_of, hc]; simpa using c2
  clear hc c1 c2
  go_wp2_with ((refine ev_row (ty := 24) (x := .tmp 4) (y := .tmp 39) (g := w.heap.size) (cells := #[.int .i64 0, .int .i64 0, .int .i64 0, .int .i64 0, .int .i64 0, .int .i64 0, .string ⟨#[]⟩, .string ⟨#[]⟩, .string ⟨#[]⟩, .slice none 0 0]) ?_ ?_ ?_ ?_ ?_ ?_ ?_ b3 ?_ ?_; (rfl); (rfl); (rfl); (rfl); (rfl); (simp [Value.oneCell']); (kernel_rfl); (rfl); intro wz bz hz))
  have cz := bz.cell
  refine bodyPost_ret (v := .tuple #[.agg #[.int .i64 0, .int .i64 0, .int .i64 0, .int .i64 0, .int .i64 0, .int .i64 0, .string ⟨#[]⟩, .string ⟨#[]⟩, .string ⟨#[]⟩, .slice none 0 0], .int .i64 0, .int .i64 4]) (by simp [results, Tryz.results11, go_sem, cz]) rfl ?_
  rw [HG.out]
  exact ⟨none, 0, rfl, (fun h => absurd rfl h), HB3.trans (hz.below (Nat.le_refl _))⟩

set_option maxRecDepth 100000 in
set_option maxHeartbeats 8000000 in
theorem get_short (b : Nat) (s : ByteArray) (w : World) (hs : s.size ≤ 140737488355328) (ht : TabAt w b) (hd rs : ByteArray) (st1 st2 st3 : RSt) (n : Nat) (E1 : takeR 1 (some (L s)) = (L hd, st1)) (E2 : numR 2 st1 = (n, st2)) (E3 : takeR (n - 3) st2 = (L rs, st3)) (hc : hd.toList = [] ∨ hd.toList = [165] ∨ hd.toList = [90]) (hz : s.size < 3) :
    Calls Tryz.prog 11 #[.pointer (some ⟨b, 0, none⟩), .string s] w (GetIs w (getT (L hd) (L rs) n s.size st3)) := by
  have hn : n < 65536 := by have := numR_lt (n := 2) (st := st1); rw [E2] at this; exact this
  have HT := Lib.hid ht
  have HB0 : Below w.heap.size w (w.alloc (.cells #[.int .i64 0, .int .i64 0, .int .i64 0, .int .i64 0, .int .i64 0, .int .i64 0, .string ⟨#[]⟩, .string ⟨#[]⟩, .string ⟨#[]⟩, .slice none 0 0] 24)) := balloc (Below.refl _ _)
  have b00 := Blk.new w 24 #[.int .i64 0, .int .i64 0, .int .i64 0, .int .i64 0, .int .i64 0, .int .i64 0, .string ⟨#[]⟩, .string ⟨#[]⟩, .string ⟨#[]⟩, .slice none 0 0]
  have F1 := Lib.hid E1
  have F2 := Lib.hid E2
  have F3 := Lib.hid E3
  have hmx : max ((n : Int) - 3) 0 = ((n - 3 : Nat) : Int) := by omega
  clear ht E1 E2 E3
  go_enter Tryz.func11, Tryz.ntmps11
  go_wp2_with fail
  refine (oNew_any s _ hs).mono ?_
  rintro x w0 ⟨rfl, hr0, hb0⟩
  have b0 := b00.later hb0
  have HB := bstep HB0 hb0
  clear b00 HB0 hb0
  obtain ⟨g, hg⟩ : ∃ g, (w.alloc (.cells #[.int .i64 0, .int .i64 0, .int .i64 0, .int .i64 0, .int .i64 0, .int .i64 0, .string ⟨#[]⟩, .string ⟨#[]⟩, .string ⟨#[]⟩, .slice none 0 0] 24)).heap.size = g := ⟨_, rfl⟩
  have hg2 : w.heap.size + 1 = g := by rw [← hg]; simp
  have hgw : w.heap.size < g := by omega
  rw [hg] at hr0 ⊢
  clear hg hg2
  have N1 := take_any 1 g _ w0 hr0 (by omega)
  rw [F1.out] at N1
  have M1 := Lib.hid N1
  clear N1
  go_wp2_with fail
  refine M1.out.mono ?_
  rintro x w1 ⟨rfl, hr1, hb1⟩
  dsimp only at hr1 ⊢
  rw [B_L]
  have b1 := b0.but hb1 (by omega)
  have HB1 := HB.trans (hb1.below (by omega))
  clear M1 hb1 b0 hr0
  have N2 := rNum_read 2 g _ w1 hr1 (by omega) (by omega)
  rw [F2.out] at N2
  have M2 := Lib.hid N2
  clear N2
  go_wp2_with fail
  refine M2.out.mono ?_
  rintro x w2 ⟨rfl, hr2, hb2⟩
  dsimp only at hr2 ⊢
  have b2 := b1.but hb2 (by omega)
  have HB2 := HB1.trans (hb2.below (by omega))
  clear M2 hb2 b1 hr1
  have N3 := take_any (n - 3) g _ w2 hr2 (by omega)
  rw [F3.out] at N3
  have M3 := Lib.hid N3
  clear N3
  go_wp2_with fail
  refine M3.out.mono ?_
  rintro x w3 ⟨rfl, hr3, hb3⟩
  dsimp only at hr3 ⊢
  rw [B_L]
  have b3 := b2.but hb3 (by omega)
  have HB3 := HB2.trans (hb3.below (by omega))
  clear M3 hb3 b2 hr2
  have HG := Lib.hid (show getT (L hd) (L rs) n s.size st3 = (3, 0, noM) from getT_short (by rw [← L_of]; rcases hc with h | h | h <;> simp [h]) hz)
  have d3 : decide ((s.size : Int) < 3) = true := decide_eq_true (by omega)
  rcases hc with hc | hc | hc
  all_goals
    go_wp2_with ((refine ev_row (ty := 24) (x := .tmp 4) (y := .tmp 44) (g := w.heap.size) (cells := #[.int .i64 0, .int .i64 0, .int .i64 0, .int .i64 0, .int .i64 0, .int .i64 0, .string ⟨#[]⟩, .string ⟨#[]⟩, .string ⟨#[]⟩, .slice none 0 0]) ?_ ?_ ?_ ?_ ?_ ?_ ?_ b3 ?_ ?_; (rfl); (rfl); (rfl); (rfl); (rfl); (simp [Value.oneCell']); (kernel_rfl); (rfl); intro wz bz hz))
    have cz := bz.cell
    refine bodyPost_ret (v := .tuple #[.agg #[.int .i64 0, .int .i64 0, .int .i64 0, .int .i64 0, .int .i64 0, .int .i64 0, .string ⟨#[]⟩, .string ⟨#[]⟩, .string ⟨#[]⟩, .slice none 0 0], .int .i64 0, .int .i64 3]) (by simp [results, Tryz.results11, go_sem, cz]) rfl ?_
    rw [HG.out]
    exact ⟨none, 0, rfl, (fun h => absurd rfl h), HB3.trans (hz.below (Nat.le_refl _))⟩

set_option maxRecDepth 100000 in
set_option maxHeartbeats 8000000 in
theorem get_long (b : Nat) (s : ByteArray) (w : World) (hs : s.size ≤ 140737488355328) (ht : TabAt w b) (hd rs : ByteArray) (st1 st2 st3 : RSt) (n : Nat) (E1 : takeR 1 (some (L s)) = (L hd, st1)) (E2 : numR 2 st1 = (n, st2)) (E3 : takeR (n - 3) st2 = (L rs, st3)) (hc : hd.toList = [165] ∨ hd.toList = [90]) (hz : ¬ s.size < 3) (hl : n < 3 ∨ hd.toList = [90] ∧ 1024 < n) :
    Calls Tryz.prog 11 #[.pointer (some ⟨b, 0, none⟩), .string s] w (GetIs w (getT (L hd) (L rs) n s.size st3)) := by
  have hn : n < 65536 := by have := numR_lt (n := 2) (st := st1); rw [E2] at this; exact this
  have HT := Lib.hid ht
  have HB0 : Below w.heap.size w (w.alloc (.cells #[.int .i64 0, .int .i64 0, .int .i64 0, .int .i64 0, .int .i64 0, .int .i64 0, .string ⟨#[]⟩, .string ⟨#[]⟩, .string ⟨#[]⟩, .slice none 0 0] 24)) := balloc (Below.refl _ _)
  have b00 := Blk.new w 24 #[.int .i64 0, .int .i64 0, .int .i64 0, .int .i64 0, .int .i64 0, .int .i64 0, .string ⟨#[]⟩, .string ⟨#[]⟩, .string ⟨#[]⟩, .slice none 0 0]
  have F1 := Lib.hid E1
  have F2 := Lib.hid E2
  have F3 := Lib.hid E3
  have hmx : max ((n : Int) - 3) 0 = ((n - 3 : Nat) : Int) := by omega
  clear ht E1 E2 E3
  go_enter Tryz.func11, Tryz.ntmps11
  go_wp2_with fail
  refine (oNew_any s _ hs).mono ?_
  rintro x w0 ⟨rfl, hr0, hb0⟩
  have b0 := b00.later hb0
  have HB := bstep HB0 hb0
  clear b00 HB0 hb0
  obtain ⟨g, hg⟩ : ∃ g, (w.alloc (.cells #[.int .i64 0, .int .i64 0, .int .i64 0, .int .i64 0, .int .i64 0, .int .i64 0, .string ⟨#[]⟩, .string ⟨#[]⟩, .string ⟨#[]⟩, .slice none 0 0] 24)).heap.size = g := ⟨_, rfl⟩
  have hg2 : w.heap.size + 1 = g := by rw [← hg]; simp
  have hgw : w.heap.size < g := by omega
  rw [hg] at hr0 ⊢
  clear hg hg2
  have N1 := take_any 1 g _ w0 hr0 (by omega)
  rw [F1.out] at N1
  have M1 := Lib.hid N1
  clear N1
  go_wp2_with fail
  refine M1.out.mono ?_
  rintro x w1 ⟨rfl, hr1, hb1⟩
  dsimp only at hr1 ⊢
  rw [B_L]
  have b1 := b0.but hb1 (by omega)
  have HB1 := HB.trans (hb1.below (by omega))
  clear M1 hb1 b0 hr0
  have N2 := rNum_read 2 g _ w1 hr1 (by omega) (by omega)
  rw [F2.out] at N2
  have M2 := Lib.hid N2
  clear N2
  go_wp2_with fail
  refine M2.out.mono ?_
  rintro x w2 ⟨rfl, hr2, hb2⟩
  dsimp only at hr2 ⊢
  have b2 := b1.but hb2 (by omega)
  have HB2 := HB1.trans (hb2.below (by omega))
  clear M2 hb2 b1 hr1
  have N3 := take_any (n - 3) g _ w2 hr2 (by omega)
  rw [F3.out] at N3
  have M3 := Lib.hid N3
  clear N3
  go_wp2_with fail
  refine M3.out.mono ?_
  rintro x w3 ⟨rfl, hr3, hb3⟩
  dsimp only at hr3 ⊢
  rw [B_L]
  have b3 := b2.but hb3 (by omega)
  have HB3 := HB2.trans (hb3.below (by omega))
  clear M3 hb3 b2 hr2
  have HG := Lib.hid (show getT (L hd) (L rs) n s.size st3 = (4, 0, noM) from getT_long (by rw [← L_of]; rcases hc with h | h <;> simp [h]) hz (by rw [← L_of]; exact hl))
  have d3 : decide ((s.size : Int) < 3) = false := decide_eq_false (by omega)
  rcases hl with hl | ⟨hc, hl⟩
  · have dn : decide ((n : Int) < 3) = true := decide_eq_true (by omega)
    rcases hc with hc | hc
    all_goals
      go_wp2_with ((refine ev_row (ty := 24) (x := .tmp 4) (y := .tmp 56) (g := w.heap.size) (cells := #[.int .i64 0, .int .i64 0, .int .i64 0, .int .i64 0, .int .i64 0, .int .i64 0, .string ⟨#[]⟩, .string ⟨#[]⟩, .string ⟨#[]⟩, .slice none 0 0]) ?_ ?_ ?_ ?_ ?_ ?_ ?_ b3 ?_ ?_; (rfl); (rfl); (rfl); (rfl); (rfl); (simp [Value.oneCell']); (kernel_rfl); (rfl); intro wz bz hz))
      have cz := bz.cell
      refine bodyPost_ret (v := .tuple #[.agg #[.int .i64 0, .int .i64 0, .int .i64 0, .int .i64 0, .int .i64 0, .int .i64 0, .string ⟨#[]⟩, .string ⟨#[]⟩, .string ⟨#[]⟩, .slice none 0 0], .int .i64 0, .int .i64 4]) (by simp [results, Tryz.results11, go_sem, cz]) rfl ?_
      rw [HG.out]
      exact ⟨none, 0, rfl, (fun h => absurd rfl h), HB3.trans (hz.below (Nat.le_refl _))⟩
  · by_cases hn3 : n < 3
    · have dn : decide ((n : Int) < 3) = true := decide_eq_true (by omega)
      go_wp2_with ((refine ev_row (ty := 24) (x := .tmp 4) (y := .tmp 56) (g := w.heap.size) (cells := #[.int .i64 0, .int .i64 0, .int .i64 0, .int .i64 0, .int .i64 0, .int .i64 0, .string ⟨#[]⟩, .string ⟨#[]⟩, .string ⟨#[]⟩, .slice none 0 0]) ?_ ?_ ?_ ?_ ?_ ?_ ?_ b3 ?_ ?_; (rfl); (rfl); (rfl); (rfl); (rfl); (simp [Value.oneCell']); (kernel_rfl); (rfl); intro wz bz hz))
      have cz := bz.cell
      refine bodyPost_ret (v := .tuple #[.agg #[.int .i64 0, .int .i64 0, .int .i64 0, .int .i64 0, .int .i64 0, .int .i64 0, .string ⟨#[]⟩, .string ⟨#[]⟩, .string ⟨#[]⟩, .slice none 0 0], .int .i64 0, .int .i64 4]) (by simp [results, Tryz.results11, go_sem, cz]) rfl ?_
      rw [HG.out]
      exact ⟨none, 0, rfl, (fun h => absurd rfl h), HB3.trans (hz.below (Nat.le_refl _))⟩
    · have dn : decide ((n : Int) < 3) = false := decide_eq_false (by omega)
      have dm : decide ((1024 : Int) < (n : Int)) = true := decide_eq_true (by omega)
      go_wp2_with ((refine ev_row (ty := 24) (x := .tmp 4) (y := .tmp 56) (g := w.heap.size) (cells := #[.int .i64 0, .int .i64 0, .int .i64 0, .int .i64 0, .int .i64 0, .int .i64 0, .string ⟨#[]⟩, .string ⟨#[]⟩, .string ⟨#[]⟩, .slice none 0 0]) ?_ ?_ ?_ ?_ ?_ ?_ ?_ b3 ?_ ?_; (rfl); (rfl); (rfl); (rfl); (rfl); (simp [Value.oneCell']); (kernel_rfl); (rfl); intro wz bz hz))
      have cz := bz.cell
      refine bodyPost_ret (v := .tuple #[.agg #[.int .i64 0, .int .i64 0, .int .i64 0, .int .i64 0, .int .i64 0, .int .i64 0, .string ⟨#[]⟩, .string ⟨#[]⟩, .string ⟨#[]⟩, .slice none 0 0], .int .i64 0, .int .i64 4]) (by simp [results, Tryz.results11, go_sem, cz]) rfl ?_
      rw [HG.out]
      exact ⟨none, 0, rfl, (fun h => absurd rfl h), HB3.trans (hz.below (Nat.le_refl _))⟩

set_option maxRecDepth 100000 in
set_option maxHeartbeats 8000000 in
theorem get_cut165 (b : Nat) (s : ByteArray) (w : World) (hs : s.size ≤ 140737488355328) (ht : TabAt w b) (hd rs : ByteArray) (st1 st2 st3 : RSt) (n : Nat) (E1 : takeR 1 (some (L s)) = (L hd, st1)) (E2 : numR 2 st1 = (n, st2)) (E3 : takeR (n - 3) st2 = (L rs, st3)) (hc : hd.toList = [165]) (hz : ¬ s.size < 3) (hl : ¬ n < 3) (hst : st3 = none) :
    Calls Tryz.prog 11 #[.pointer (some ⟨b, 0, none⟩), .string s] w (GetIs w (getT (L hd) (L rs) n s.size st3)) := by
  have hn : n < 65536 := by have := numR_lt (n := 2) (st := st1); rw [E2] at this; exact this
  have HT := Lib.hid ht
  have HB0 : Below w.heap.size w (w.alloc (.cells #[.int .i64 0, .int .i64 0, .int .i64 0, .int .i64 0, .int .i64 0, .int .i64 0, .string ⟨#[]⟩, .string ⟨#[]⟩, .string ⟨#[]⟩, .slice none 0 0] 24)) := balloc (Below.refl _ _)
  have b00 := Blk.new w 24 #[.int .i64 0, .int .i64 0, .int .i64 0, .int .i64 0, .int .i64 0, .int .i64 0, .string ⟨#[]⟩, .string ⟨#[]⟩, .string ⟨#[]⟩, .slice none 0 0]
  have F1 := Lib.hid E1
  have F2 := Lib.hid E2
  have F3 := Lib.hid E3
  have hmx : max ((n : Int) - 3) 0 = ((n - 3 : Nat) : Int) := by omega
  clear ht E1 E2 E3
  go_enter Tryz.func11, Tryz.ntmps11
  go_wp2_with fail
  refine (oNew_any s _ hs).mono ?_
  rintro x w0 ⟨rfl, hr0, hb0⟩
  have b0 := b00.later hb0
  have HB := bstep HB0 hb0
  clear b00 HB0 hb0
  obtain ⟨g, hg⟩ : ∃ g, (w.alloc (.cells #[.int .i64 0, .int .i64 0, .int .i64 0, .int .i64 0, .int .i64 0, .int .i64 0, .string ⟨#[]⟩, .string ⟨#[]⟩, .string ⟨#[]⟩, .slice none 0 0] 24)).heap.size = g := ⟨_, rfl⟩
  have hg2 : w.heap.size + 1 = g := by rw [← hg]; simp
  have hgw : w.heap.size < g := by omega
  rw [hg] at hr0 ⊢
  clear hg hg2
  have N1 := take_any 1 g _ w0 hr0 (by omega)
  rw [F1.out] at N1
  have M1 := Lib.hid N1
  clear N1
  go_wp2_with fail
  refine M1.out.mono ?_
  rintro x w1 ⟨rfl, hr1, hb1⟩
  dsimp only at hr1 ⊢
  rw [B_L]
  have b1 := b0.but hb1 (by omega)
  have HB1 := HB.trans (hb1.below (by omega))
  clear M1 hb1 b0 hr0
  have N2 := rNum_read 2 g _ w1 hr1 (by omega) (by omega)
  rw [F2.out] at N2
  have M2 := Lib.hid N2
  clear N2
  go_wp2_with fail
  refine M2.out.mono ?_
  rintro x w2 ⟨rfl, hr2, hb2⟩
  dsimp only at hr2 ⊢
  have b2 := b1.but hb2 (by omega)
  have HB2 := HB1.trans (hb2.below (by omega))
  clear M2 hb2 b1 hr1
  have N3 := take_any (n - 3) g _ w2 hr2 (by omega)
  rw [F3.out] at N3
  have M3 := Lib.hid N3
  clear N3
  go_wp2_with fail
  refine M3.out.mono ?_
  rintro x w3 ⟨rfl, hr3, hb3⟩
  dsimp only at hr3 ⊢
  rw [B_L]
  have b3 := b2.but hb3 (by omega)
  have HB3 := HB2.trans (hb3.below (by omega))
  clear M3 hb3 b2 hr2
  subst hst
  have HG := Lib.hid (show getT (L hd) (L rs) n s.size none = (3, 0, noM) from getT_cut (by rw [← L_of, hc]; simp) hz (by rw [← L_of, hc]; simp; omega))
  obtain ⟨s3, e3, q3, z3, t3⟩ := hr3
  have he3 : (e3 == 0) = false := t3
  have he4 : (e3 != 0) = true := by rw [bne, he3]; rfl
  clear t3
  have d3 : decide ((s.size : Int) < 3) = false := decide_eq_false (by omega)
  have dn : decide ((n : Int) < 3) = false := decide_eq_false (by omega)
  go_wp2_with (first
      | (go_at_call 32; refine (err_any g s3 e3 _ q3).mono ?_; rintro x w4 ⟨rfl, rfl⟩)
      | (refine ev_row (ty := 24) (x := .tmp 4) (y := .tmp 61) (g := w.heap.size) (cells := #[.int .i64 0, .int .i64 0, .int .i64 0, .int .i64 0, .int .i64 0, .int .i64 0, .string ⟨#[]⟩, .string ⟨#[]⟩, .string ⟨#[]⟩, .slice none 0 0]) ?_ ?_ ?_ ?_ ?_ ?_ ?_ b3 ?_ ?_; (rfl); (rfl); (rfl); (rfl); (rfl); (simp [Value.oneCell']); (kernel_rfl); (rfl); intro wz bz hz))
  have cz := bz.cell
  refine bodyPost_ret (v := .tuple #[.agg #[.int .i64 0, .int .i64 0, .int .i64 0, .int .i64 0, .int .i64 0, .int .i64 0, .string ⟨#[]⟩, .string ⟨#[]⟩, .string ⟨#[]⟩, .slice none 0 0], .int .i64 0, .int .i64 3]) (by simp [results, Tryz.results11, go_sem, cz]) rfl ?_
  rw [HG.out]
  exact ⟨none, 0, rfl, (fun h => absurd rfl h), HB3.trans (hz.below (Nat.le_refl _))⟩

set_option maxRecDepth 100000 in
set_option maxHeartbeats 8000000 in
theorem get_cut90 (b : Nat) (s : ByteArray) (w : World) (hs : s.size ≤ 140737488355328) (ht : TabAt w b) (hd rs : ByteArray) (st1 st2 st3 : RSt) (n : Nat) (E1 : takeR 1 (some (L s)) = (L hd, st1)) (E2 : numR 2 st1 = (n, st2)) (E3 : takeR (n - 3) st2 = (L rs, st3)) (hc : hd.toList = [90]) (hz : ¬ s.size < 3) (hl : ¬ n < 3) (hm : ¬ 1024 < n) (hst : st3 = none) :
    Calls Tryz.prog 11 #[.pointer (some ⟨b, 0, none⟩), .string s] w (GetIs w (getT (L hd) (L rs) n s.size st3)) := by
  have hn : n < 65536 := by have := numR_lt (n := 2) (st := st1); rw [E2] at this; exact this
  have HT := Lib.hid ht
  have HB0 : Below w.heap.size w (w.alloc (.cells #[.int .i64 0, .int .i64 0, .int .i64 0, .int .i64 0, .int .i64 0, .int .i64 0, .string ⟨#[]⟩, .string ⟨#[]⟩, .string ⟨#[]⟩, .slice none 0 0] 24)) := balloc (Below.refl _ _)
  have b00 := Blk.new w 24 #[.int .i64 0, .int .i64 0, .int .i64 0, .int .i64 0, .int .i64 0, .int .i64 0, .string ⟨#[]⟩, .string ⟨#[]⟩, .string ⟨#[]⟩, .slice none 0 0]
  have F1 := Lib.hid E1
  have F2 := Lib.hid E2
  have F3 := Lib.hid E3
  have hmx : max ((n : Int) - 3) 0 = ((n - 3 : Nat) : Int) := by omega
  clear ht E1 E2 E3
  go_enter Tryz.func11, Tryz.ntmps11
  go_wp2_with fail
  refine (oNew_any s _ hs).mono ?_
  rintro x w0 ⟨rfl, hr0, hb0⟩
  have b0 := b00.later hb0
  have HB := bstep HB0 hb0
  clear b00 HB0 hb0
  obtain ⟨g, hg⟩ : ∃ g, (w.alloc (.cells #[.int .i64 0, .int .i64 0, .int .i64 0, .int .i64 0, .int .i64 0, .int .i64 0, .string ⟨#[]⟩, .string ⟨#[]⟩, .string ⟨#[]⟩, .slice none 0 0] 24)).heap.size = g := ⟨_, rfl⟩
  have hg2 : w.heap.size + 1 = g := by rw [← hg]; simp
  have hgw : w.heap.size < g := by omega
  rw [hg] at hr0 ⊢
  clear hg hg2
  have N1 := take_any 1 g _ w0 hr0 (by omega)
  rw [F1.out] at N1
  have M1 := Lib.hid N1
  clear N1
  go_wp2_with fail
  refine M1.out.mono ?_
  rintro x w1 ⟨rfl, hr1, hb1⟩
  dsimp only at hr1 ⊢
  rw [B_L]
  have b1 := b0.but hb1 (by omega)
  have HB1 := HB.trans (hb1.below (by omega))
  clear M1 hb1 b0 hr0
  have N2 := rNum_read 2 g _ w1 hr1 (by omega) (by omega)
  rw [F2.out] at N2
  have M2 := Lib.hid N2
  clear N2
  go_wp2_with fail
  refine M2.out.mono ?_
  rintro x w2 ⟨rfl, hr2, hb2⟩
  dsimp only at hr2 ⊢
  have b2 := b1.but hb2 (by omega)
  have HB2 := HB1.trans (hb2.below (by omega))
  clear M2 hb2 b1 hr1
  have N3 := take_any (n - 3) g _ w2 hr2 (by omega)
  rw [F3.out] at N3
  have M3 := Lib.hid N3
  clear N3
  go_wp2_with fail
  refine M3.out.mono ?_
  rintro x w3 ⟨rfl, hr3, hb3⟩
  dsimp only at hr3 ⊢
  rw [B_L]
  have b3 := b2.but hb3 (by omega)
  have HB3 := HB2.trans (hb3.below (by omega))
  clear M3 hb3 b2 hr2
  subst hst
  have HG := Lib.hid (show getT (L hd) (L rs) n s.size none = (3, 0, noM) from getT_cut (by rw [← L_of, hc]; simp) hz (by rw [← L_of, hc]; simp; omega))
  obtain ⟨s3, e3, q3, z3, t3⟩ := hr3
  have he3 : (e3 == 0) = false := t3
  have he4 : (e3 != 0) = true := by rw [bne, he3]; rfl
  clear t3
  have d3 : decide ((s.size : Int) < 3) = false := decide_eq_false (by omega)
  have dn : decide ((n : Int) < 3) = false := decide_eq_false (by omega)
  have dm : decide ((1024 : Int) < (n : Int)) = false := decide_eq_false (by omega)
  go_wp2_with (first
      | (go_at_call 32; refine (err_any g s3 e3 _ q3).mono ?_; rintro x w4 ⟨rfl, rfl⟩)
      | (refine ev_row (ty := 24) (x := .tmp 4) (y := .tmp 61) (g := w.heap.size) (cells := #[.int .i64 0, .int .i64 0, .int .i64 0, .int .i64 0, .int .i64 0, .int .i64 0, .string ⟨#[]⟩, .string ⟨#[]⟩, .string ⟨#[]⟩, .slice none 0 0]) ?_ ?_ ?_ ?_ ?_ ?_ ?_ b3 ?_ ?_; (rfl); (rfl); (rfl); (rfl); (rfl); (simp [Value.oneCell']); (kernel_rfl); (rfl); intro wz bz hz))
  have cz := bz.cell
  refine bodyPost_ret (v := .tuple #[.agg #[.int .i64 0, .int .i64 0, .int .i64 0, .int .i64 0, .int .i64 0, .int .i64 0, .string ⟨#[]⟩, .string ⟨#[]⟩, .string ⟨#[]⟩, .slice none 0 0], .int .i64 0, .int .i64 3]) (by simp [results, Tryz.results11, go_sem, cz]) rfl ?_
  rw [HG.out]
  exact ⟨none, 0, rfl, (fun h => absurd rfl h), HB3.trans (hz.below (Nat.le_refl _))⟩

set_option maxRecDepth 100000 in
set_option maxHeartbeats 8000000 in
theorem get_fill (b : Nat) (s : ByteArray) (w : World) (hs : s.size ≤ 140737488355328) (ht : TabAt w b) (hd rs : ByteArray) (st1 st2 st3 : RSt) (n : Nat) (E1 : takeR 1 (some (L s)) = (L hd, st1)) (E2 : numR 2 st1 = (n, st2)) (E3 : takeR (n - 3) st2 = (L rs, st3)) (hc : hd.toList = [90]) (hz : ¬ s.size < 3) (hl : ¬ n < 3) (hm : ¬ 1024 < n) (l3 : List UInt8) (hst : st3 = some l3) (hrz : rs.size ≤ 140737488355328) :
    Calls Tryz.prog 11 #[.pointer (some ⟨b, 0, none⟩), .string s] w (GetIs w (getT (L hd) (L rs) n s.size st3)) := by
  have hn : n < 65536 := by have := numR_lt (n := 2) (st := st1); rw [E2] at this; exact this
  have HT := Lib.hid ht
  have HB0 : Below w.heap.size w (w.alloc (.cells #[.int .i64 0, .int .i64 0, .int .i64 0, .int .i64 0, .int .i64 0, .int .i64 0, .string ⟨#[]⟩, .string ⟨#[]⟩, .string ⟨#[]⟩, .slice none 0 0] 24)) := balloc (Below.refl _ _)
  have b00 := Blk.new w 24 #[.int .i64 0, .int .i64 0, .int .i64 0, .int .i64 0, .int .i64 0, .int .i64 0, .string ⟨#[]⟩, .string ⟨#[]⟩, .string ⟨#[]⟩, .slice none 0 0]
  have F1 := Lib.hid E1
  have F2 := Lib.hid E2
  have F3 := Lib.hid E3
  have hmx : max ((n : Int) - 3) 0 = ((n - 3 : Nat) : Int) := by omega
  clear ht E1 E2 E3
  go_enter Tryz.func11, Tryz.ntmps11
  go_wp2_with fail
  refine (oNew_any s _ hs).mono ?_
  rintro x w0 ⟨rfl, hr0, hb0⟩
  have b0 := b00.later hb0
  have HB := bstep HB0 hb0
  clear b00 HB0 hb0
  obtain ⟨g, hg⟩ : ∃ g, (w.alloc (.cells #[.int .i64 0, .int .i64 0, .int .i64 0, .int .i64 0, .int .i64 0, .int .i64 0, .string ⟨#[]⟩, .string ⟨#[]⟩, .string ⟨#[]⟩, .slice none 0 0] 24)).heap.size = g := ⟨_, rfl⟩
  have hg2 : w.heap.size + 1 = g := by rw [← hg]; simp
  have hgw : w.heap.size < g := by omega
  rw [hg] at hr0 ⊢
  clear hg hg2
  have N1 := take_any 1 g _ w0 hr0 (by omega)
  rw [F1.out] at N1
  have M1 := Lib.hid N1
  clear N1
  go_wp2_with fail
  refine M1.out.mono ?_
  rintro x w1 ⟨rfl, hr1, hb1⟩
  dsimp only at hr1 ⊢
  rw [B_L]
  have b1 := b0.but hb1 (by omega)
  have HB1 := HB.trans (hb1.below (by omega))
  clear M1 hb1 b0 hr0
  have N2 := rNum_read 2 g _ w1 hr1 (by omega) (by omega)
  rw [F2.out] at N2
  have M2 := Lib.hid N2
  clear N2
  go_wp2_with fail
  refine M2.out.mono ?_
  rintro x w2 ⟨rfl, hr2, hb2⟩
  dsimp only at hr2 ⊢
  have b2 := b1.but hb2 (by omega)
  have HB2 := HB1.trans (hb2.below (by omega))
  clear M2 hb2 b1 hr1
  have N3 := take_any (n - 3) g _ w2 hr2 (by omega)
  rw [F3.out] at N3
  have M3 := Lib.hid N3
  clear N3
  go_wp2_with fail
  refine M3.out.mono ?_
  rintro x w3 ⟨rfl, hr3, hb3⟩
  dsimp only at hr3 ⊢
  rw [B_L]
  have b3 := b2.but hb3 (by omega)
  have HB3 := HB2.trans (hb3.below (by omega))
  clear M3 hb3 b2 hr2
  subst hst
  obtain ⟨s3, e3, q3, z3, t3, t4⟩ := hr3
  subst t4
  clear t3
  have hL : L hd = [90] := by rw [← L_of]; exact hc
  have d3 : decide ((s.size : Int) < 3) = false := decide_eq_false (by omega)
  have dn : decide ((n : Int) < 3) = false := decide_eq_false (by omega)
  have dm : decide ((1024 : Int) < (n : Int)) = false := decide_eq_false (by omega)
  by_cases hno : L rs = noughtsL (L rs).length
  · have HG := Lib.hid (show getT (L hd) (L rs) n s.size (some l3) = (0, n, nilM n) by rw [hL]; exact getT_fill hz hl hm hno)
    rw [L_len] at hno
    have hq : rs = B (noughtsL rs.size) := L_inj hno
    have hq1 : (rs.toList == (B (noughtsL rs.size)).toList) = true := by rw [← hq]; simp
    clear hno hq hL
    go_wp2_with (fail)
    refine (err_any g s3 0 _ q3).mono ?_
    rintro x w4 ⟨rfl, rfl⟩
    go_wp2_with fail
    refine (noughts_any rs.size _ hrz).mono ?_
    rintro x w5 ⟨rfl, hb5⟩
    have b5 := b3.later hb5
    have HB5 := bstep HB3 hb5
    go_wp2_with fail
    refine (noughts_any n _ (by omega)).mono ?_
    rintro x w6 ⟨rfl, hb6⟩
    have b6 := b5.later hb6
    have HB6 := bstep HB5 hb6
    go_wp2_with ((refine ev_row (ty := 24) (x := .tmp 4) (y := .tmp 78) (g := w.heap.size) (cells := #[.int .i64 0, .int .i64 0, .int .i64 0, .int .i64 0, .int .i64 0, .int .i64 0, .string ⟨#[]⟩, .string ⟨#[]⟩, .string (B (noughtsL n)), .slice none 0 0]) ?_ ?_ ?_ ?_ ?_ ?_ ?_ b6 ?_ ?_; (rfl); (rfl); (rfl); (rfl); (rfl); (simp [Value.oneCell']); (kernel_rfl); (rfl); intro wz bz hz))
    have cz := bz.cell
    refine bodyPost_ret (v := .tuple #[.agg #[.int .i64 0, .int .i64 0, .int .i64 0, .int .i64 0, .int .i64 0, .int .i64 0, .string ⟨#[]⟩, .string ⟨#[]⟩, .string (B (noughtsL n)), .slice none 0 0], .int .i64 n, .int .i64 0]) (by simp [results, Tryz.results11, go_sem, cz]) rfl ?_
    rw [HG.out]
    exact ⟨none, 0, rfl, (fun h => absurd rfl h), HB6.trans (hz.below (Nat.le_refl _))⟩
  · have HG := Lib.hid (show getT (L hd) (L rs) n s.size (some l3) = (4, 0, noM) by rw [hL]; exact getT_bad hz hl hm hno)
    rw [L_len] at hno
    have hq : ¬ rs = B (noughtsL rs.size) := fun e => hno (congrArg L e)
    have hq1 : (rs.toList == (B (noughtsL rs.size)).toList) = false := by
      rw [beq_eq_false_iff_ne, L_of, L_of, L_B]; exact hno
    clear hno hq hL
    go_wp2_with (first
      | (go_at_call 32; refine (err_any g s3 0 _ q3).mono ?_; rintro x w4 ⟨rfl, rfl⟩)
      | (go_at_call 21; refine (noughts_any rs.size _ hrz).mono ?_; rintro x w5 ⟨rfl, hb5⟩; have b5 := b3.later hb5; have HB5 := bstep HB3 hb5)
      | (refine ev_row (ty := 24) (x := .tmp 4) (y := .tmp 72) (g := w.heap.size) (cells := #[.int .i64 0, .int .i64 0, .int .i64 0, .int .i64 0, .int .i64 0, .int .i64 0, .string ⟨#[]⟩, .string ⟨#[]⟩, .string ⟨#[]⟩, .slice none 0 0]) ?_ ?_ ?_ ?_ ?_ ?_ ?_ b5 ?_ ?_; (rfl); (rfl); (rfl); (rfl); (rfl); (simp [Value.oneCell']); (kernel_rfl); (rfl); intro wz bz hz))
    have cz := bz.cell
    refine bodyPost_ret (v := .tuple #[.agg #[.int .i64 0, .int .i64 0, .int .i64 0, .int .i64 0, .int .i64 0, .int .i64 0, .string ⟨#[]⟩, .string ⟨#[]⟩, .string ⟨#[]⟩, .slice none 0 0], .int .i64 0, .int .i64 4]) (by simp [results, Tryz.results11, go_sem, cz]) rfl ?_
    rw [HG.out]
    exact ⟨none, 0, rfl, (fun h => absurd rfl h), HB5.trans (hz.below (Nat.le_refl _))⟩

set_option maxRecDepth 100000 in
set_option maxHeartbeats 8000000 in
theorem get_seal (b : Nat) (s : ByteArray) (w : World) (hs : s.size ≤ 140737488355328) (ht : TabAt w b) (hd rs : ByteArray) (st1 st2 st3 : RSt) (n : Nat) (E1 : takeR 1 (some (L s)) = (L hd, st1)) (E2 : numR 2 st1 = (n, st2)) (E3 : takeR (n - 3) st2 = (L rs, st3)) (hc : hd.toList = [165]) (hz : ¬ s.size < 3) (hl : ¬ n < 3) (l3 : List UInt8) (hst : st3 = some l3) (hrz : rs.size ≤ 140737488355328) :
    Calls Tryz.prog 11 #[.pointer (some ⟨b, 0, none⟩), .string s] w (GetIs w (getT (L hd) (L rs) n s.size st3)) := by
  have hn : n < 65536 := by have := numR_lt (n := 2) (st := st1); rw [E2] at this; exact this
  have HT := Lib.hid ht
  have HB0 : Below w.heap.size w (w.alloc (.cells #[.int .i64 0, .int .i64 0, .int .i64 0, .int .i64 0, .int .i64 0, .int .i64 0, .string ⟨#[]⟩, .string ⟨#[]⟩, .string ⟨#[]⟩, .slice none 0 0] 24)) := balloc (Below.refl _ _)
  have b00 := Blk.new w 24 #[.int .i64 0, .int .i64 0, .int .i64 0, .int .i64 0, .int .i64 0, .int .i64 0, .string ⟨#[]⟩, .string ⟨#[]⟩, .string ⟨#[]⟩, .slice none 0 0]
  have F1 := Lib.hid E1
  have F2 := Lib.hid E2
  have F3 := Lib.hid E3
  have hmx : max ((n : Int) - 3) 0 = ((n - 3 : Nat) : Int) := by omega
  clear ht E1 E2 E3
  go_enter Tryz.func11, Tryz.ntmps11
  go_wp2_with fail
  refine (oNew_any s _ hs).mono ?_
  rintro x w0 ⟨rfl, hr0, hb0⟩
  have b0 := b00.later hb0
  have HB := bstep HB0 hb0
  clear b00 HB0 hb0
  obtain ⟨g, hg⟩ : ∃ g, (w.alloc (.cells #[.int .i64 0, .int .i64 0, .int .i64 0, .int .i64 0, .int .i64 0, .int .i64 0, .string ⟨#[]⟩, .string ⟨#[]⟩, .string ⟨#[]⟩, .slice none 0 0] 24)).heap.size = g := ⟨_, rfl⟩
  have hg2 : w.heap.size + 1 = g := by rw [← hg]; simp
  have hgw : w.heap.size < g := by omega
  rw [hg] at hr0 ⊢
  clear hg hg2
  have N1 := take_any 1 g _ w0 hr0 (by omega)
  rw [F1.out] at N1
  have M1 := Lib.hid N1
  clear N1
  go_wp2_with fail
  refine M1.out.mono ?_
  rintro x w1 ⟨rfl, hr1, hb1⟩
  dsimp only at hr1 ⊢
  rw [B_L]
  have b1 := b0.but hb1 (by omega)
  have HB1 := HB.trans (hb1.below (by omega))
  clear M1 hb1 b0 hr0
  have N2 := rNum_read 2 g _ w1 hr1 (by omega) (by omega)
  rw [F2.out] at N2
  have M2 := Lib.hid N2
  clear N2
  go_wp2_with fail
  refine M2.out.mono ?_
  rintro x w2 ⟨rfl, hr2, hb2⟩
  dsimp only at hr2 ⊢
  have b2 := b1.but hb2 (by omega)
  have HB2 := HB1.trans (hb2.below (by omega))
  clear M2 hb2 b1 hr1
  have N3 := take_any (n - 3) g _ w2 hr2 (by omega)
  rw [F3.out] at N3
  have M3 := Lib.hid N3
  clear N3
  go_wp2_with fail
  refine M3.out.mono ?_
  rintro x w3 ⟨rfl, hr3, hb3⟩
  dsimp only at hr3 ⊢
  rw [B_L]
  have b3 := b2.but hb3 (by omega)
  have HB3 := HB2.trans (hb3.below (by omega))
  clear M3 hb3 b2 hr2
  subst hst
  obtain ⟨s3, e3, q3, z3, t3, t4⟩ := hr3
  subst t4
  clear t3
  have hL : L hd = [165] := by rw [← L_of]; exact hc
  have hG := getT_seal (r := L rs) (l := l3) hz hl
  rw [← hL] at hG
  have d3 : decide ((s.size : Int) < 3) = false := decide_eq_false (by omega)
  have dn : decide ((n : Int) < 3) = false := decide_eq_false (by omega)
  have hO := open_any b rs w3 (by omega) (HT.out.below HB3)
  cases hu : unsealL (L rs) with
  | none =>
    rw [hu] at hG hO
    have HG := Lib.hid hG
    have HO := Lib.hid hO
    clear hG hO hu hL
    go_wp2_with (first
      | (go_at_call 32; refine (err_any g s3 0 _ q3).mono ?_; rintro x w4 ⟨rfl, rfl⟩)
      | (go_at_call 33; refine HO.out.mono ?_; rintro x w5 ⟨rfl, hb5⟩; have b5 := b3.later hb5; have HB5 := bstep HB3 hb5)
      | (refine ev_row (ty := 24) (x := .tmp 4) (y := .tmp 88) (g := w.heap.size) (cells := #[.int .i64 0, .int .i64 0, .int .i64 0, .int .i64 0, .int .i64 0, .int .i64 0, .string ⟨#[]⟩, .string ⟨#[]⟩, .string ⟨#[]⟩, .slice none 0 0]) ?_ ?_ ?_ ?_ ?_ ?_ ?_ b5 ?_ ?_; (rfl); (rfl); (rfl); (rfl); (rfl); (simp [Value.oneCell']); (kernel_rfl); (rfl); intro wz bz hz))
    have cz := bz.cell
    refine bodyPost_ret (v := .tuple #[.agg #[.int .i64 0, .int .i64 0, .int .i64 0, .int .i64 0, .int .i64 0, .int .i64 0, .string ⟨#[]⟩, .string ⟨#[]⟩, .string ⟨#[]⟩, .slice none 0 0], .int .i64 0, .int .i64 5]) (by simp [results, Tryz.results11, go_sem, cz]) rfl ?_
    rw [HG.out]
    exact ⟨none, 0, rfl, (fun h => absurd rfl h), HB5.trans (hz.below (Nat.le_refl _))⟩
  | some u =>
    rw [hu] at hG hO
    dsimp only at hG
    have hus : (B u).size ≤ 140737488355328 := by
      have := congrArg List.length (unseal_some hu)
      rw [L_len, sealL_len] at this; rw [B_size]; omega
    have HO := Lib.hid hO
    have hP := fun W => opened_any (B u) W hus
    have HP := Lib.hid hP
    clear hO hu hL hP
    rcases Bool.eq_false_or_eq_true (okL u) with hk | hk
    · rw [if_pos hk] at hG
      have HG := Lib.hid hG
      clear hG
      go_wp2_with (first
        | (go_at_call 32; refine (err_any g s3 0 _ q3).mono ?_; rintro x w4 ⟨rfl, rfl⟩)
        | (go_at_call 33; refine HO.out.mono ?_; rintro x w5 ⟨rfl, hb5⟩; have b5 := b3.later hb5; have HB5 := bstep HB3 hb5))
      refine (HP.out w5).mono ?_
      rintro x w6 ⟨A, c, q0, rfl, hS6, hb6⟩
      rw [L_B] at hS6 ⊢
      rw [hk]
      generalize hm : (openedL u).1 = m at *
      have b6 := b5.later hb6
      have HB6 := bstep HB5 hb6
      have bm := Blk.new w6 24 (msgCells m A c)
      have b7 := b6.later (balloc (o := .cells (msgCells m A c) 24) (Below.refl _ _))
      have HB7 := balloc (o := .cells (msgCells m A c) 24) HB6
      have HS7 := Lib.hid (hS6.alloc (.cells (msgCells m A c) 24))
      have cm := bm.cell
      unfold msgCells at cm b7 HB7 HS7 ⊢
      go_wp2_with ((refine ev_row (ty := 24) (x := .tmp 4) (y := .tmp 97) (g := w.heap.size) (cells := #[.int .i64 m.kind, .int .i64 m.queue, .int .i64 m.due, .int .i64 m.retry, .int .i64 m.ref, .int .i64 m.born, .string m.topic, .string m.tag, .string m.body, .slice A m.keys.length c]) ?_ ?_ ?_ ?_ ?_ ?_ ?_ b7 ?_ ?_; (rfl); (rfl); (rfl); (rfl); (rfl); (simp [Value.oneCell']); (kernel_rfl); (rfl); intro wz bz hz))
      have cz := bz.cell
      refine bodyPost_ret (v := .tuple #[.agg #[.int .i64 m.kind, .int .i64 m.queue, .int .i64 m.due, .int .i64 m.retry, .int .i64 m.ref, .int .i64 m.born, .string m.topic, .string m.tag, .string m.body, .slice A m.keys.length c], .int .i64 n, .int .i64 0]) (by simp [results, Tryz.results11, go_sem, cz]) rfl ?_
      rw [HG.out]
      exact ⟨A, c, rfl, Strs.of_row (row_but HS7.out hz b7 (by decide)), HB7.trans (hz.below (Nat.le_refl _))⟩
    · rw [if_neg (by simp [hk])] at hG
      have HG := Lib.hid hG
      clear hG
      go_wp2_with (first
        | (go_at_call 32; refine (err_any g s3 0 _ q3).mono ?_; rintro x w4 ⟨rfl, rfl⟩)
        | (go_at_call 33; refine HO.out.mono ?_; rintro x w5 ⟨rfl, hb5⟩; have b5 := b3.later hb5; have HB5 := bstep HB3 hb5))
      refine (HP.out w5).mono ?_
      rintro x w6 ⟨A, c, q0, rfl, hS6, hb6⟩
      rw [L_B] at hS6 ⊢
      rw [hk]
      generalize hm : (openedL u).1 = m at *
      have b6 := b5.later hb6
      have HB6 := bstep HB5 hb6
      have b7 := b6.later (balloc (o := .cells (msgCells m A c) 24) (Below.refl _ _))
      have HB7 := balloc (o := .cells (msgCells m A c) 24) HB6
      unfold msgCells at b7 HB7 ⊢
      go_wp2_with ((refine ev_row (ty := 24) (x := .tmp 4) (y := .tmp 96) (g := w.heap.size) (cells := #[.int .i64 0, .int .i64 0, .int .i64 0, .int .i64 0, .int .i64 0, .int .i64 0, .string ⟨#[]⟩, .string ⟨#[]⟩, .string ⟨#[]⟩, .slice none 0 0]) ?_ ?_ ?_ ?_ ?_ ?_ ?_ b7 ?_ ?_; (rfl); (rfl); (rfl); (rfl); (rfl); (simp [Value.oneCell']); (kernel_rfl); (rfl); intro wz bz hz))
      have cz := bz.cell
      refine bodyPost_ret (v := .tuple #[.agg #[.int .i64 0, .int .i64 0, .int .i64 0, .int .i64 0, .int .i64 0, .int .i64 0, .string ⟨#[]⟩, .string ⟨#[]⟩, .string ⟨#[]⟩, .slice none 0 0], .int .i64 0, .int .i64 4]) (by simp [results, Tryz.results11, go_sem, cz]) rfl ?_
      rw [HG.out]
      exact ⟨none, 0, rfl, (fun h => absurd rfl h), HB7.trans (hz.below (Nat.le_refl _))⟩

theorem get_any' (b : Nat) (s : ByteArray) (w : World) (hs : s.size ≤ 140737488355328) (ht : TabAt w b) (hd rs : ByteArray) (st1 st2 st3 : RSt) (n : Nat) (E1 : takeR 1 (some (L s)) = (L hd, st1)) (E2 : numR 2 st1 = (n, st2)) (E3 : takeR (n - 3) st2 = (L rs, st3)) :
    Calls Tryz.prog 11 #[.pointer (some ⟨b, 0, none⟩), .string s] w (GetIs w (getT (L hd) (L rs) n s.size st3)) := by
  have hrz : rs.size ≤ 140737488355328 := by
    have h1 := takeR_len (n - 3) st2
    rw [E3] at h1
    have h2 := numR_lt (n := 2) (st := st1)
    rw [E2] at h2
    have h3 : n < 65536 := h2
    rw [L_len] at h1
    have h4 : rs.size ≤ n - 3 := h1
    omega
  have hl1 := takeR_len 1 (some (L s))
  rw [E1] at hl1
  have hc : (∃ c, L hd = [c] ∧ c ≠ 165 ∧ c ≠ 90) ∨ (L hd = [] ∨ L hd = [165] ∨ L hd = [90]) := by
    match hL : L hd with
    | [] => exact .inr (.inl rfl)
    | [c] =>
      by_cases h1 : c = 165
      · exact .inr (.inr (.inl (by rw [h1])))
      · by_cases h2 : c = 90
        · exact .inr (.inr (.inr (by rw [h2])))
        · exact .inl ⟨c, rfl, h1, h2⟩
    | a :: a' :: l => rw [hL] at hl1; simp at hl1
  rcases hc with ⟨c, hc, c1, c2⟩ | hc
  · exact get_form b s w hs ht hd rs st1 st2 st3 n E1 E2 E3 c hc c1 c2
  by_cases hz : s.size < 3
  · exact get_short b s w hs ht hd rs st1 st2 st3 n E1 E2 E3 (by rw [L_of]; exact hc) hz
  have hne : L hd ≠ [] := by
    unfold takeR at E1
    dsimp only at E1
    rw [if_pos (by rw [L_len]; omega)] at E1
    intro e
    have := congrArg List.length (Prod.mk.inj E1).1
    rw [e, List.length_take, L_len] at this
    simp only [List.length_nil] at this; omega
  rcases hc with hc | hc | hc
  · exact absurd hc hne
  · by_cases hl : n < 3
    · exact get_long b s w hs ht hd rs st1 st2 st3 n E1 E2 E3 (.inl (by rw [L_of]; exact hc)) hz (.inl hl)
    · cases h3 : st3 with
      | none => exact h3 ▸ get_cut165 b s w hs ht hd rs st1 st2 st3 n E1 E2 E3 (by rw [L_of]; exact hc) hz hl h3
      | some l3 => exact h3 ▸ get_seal b s w hs ht hd rs st1 st2 st3 n E1 E2 E3 (by rw [L_of]; exact hc) hz hl l3 h3 hrz
  · by_cases hl : n < 3
    · exact get_long b s w hs ht hd rs st1 st2 st3 n E1 E2 E3 (.inr (by rw [L_of]; exact hc)) hz (.inl hl)
    by_cases hm : 1024 < n
    · exact get_long b s w hs ht hd rs st1 st2 st3 n E1 E2 E3 (.inr (by rw [L_of]; exact hc)) hz (.inr ⟨by rw [L_of]; exact hc, hm⟩)
    · cases h3 : st3 with
      | none => exact h3 ▸ get_cut90 b s w hs ht hd rs st1 st2 st3 n E1 E2 E3 (by rw [L_of]; exact hc) hz hl hm h3
      | some l3 => exact h3 ▸ get_fill b s w hs ht hd rs st1 st2 st3 n E1 E2 E3 (by rw [L_of]; exact hc) hz hl hm l3 h3 hrz

/-- What bytes are a record: the error, how many bytes, the record. -/
def getL (l : List UInt8) : Int × Nat × Msg := getT (takeR 1 (some l)).1 (takeR ((numR 2 (takeR 1 (some l)).2).1 - 3) (numR 2 (takeR 1 (some l)).2).2).1 (numR 2 (takeR 1 (some l)).2).1 l.length (takeR ((numR 2 (takeR 1 (some l)).2).1 - 3) (numR 2 (takeR 1 (some l)).2).2).2
theorem rGet_any (b : Nat) (s : ByteArray) (w : World) (hs : s.size ≤ 140737488355328) (ht : TabAt w b) :
    Calls Tryz.prog 11 #[.pointer (some ⟨b, 0, none⟩), .string s] w (GetIs w (getL (L s))) := by
  have h := get_any' b s w hs ht (B (takeR 1 (some (L s))).1) (B (takeR ((numR 2 (takeR 1 (some (L s))).2).1 - 3) (numR 2 (takeR 1 (some (L s))).2).2).1) _ _ _ _ rfl rfl rfl
  rw [L_B, L_B, ← L_len] at h
  exact h

end Go.Proofs.YtnlpohcnlmdocaaGreat
