/- What reads bytes: octet.Reader's End, Text. -/
import Derived.Test.YtnlpohcnlmdocaaGreatRead
namespace Go.Proofs.YtnlpohcnlmdocaaGreat
open Go.Shelf Go.RowKit
set_option linter.unusedVariables false
set_option linter.unusedSimpArgs false

/-- But for block g, all that was is as it was; there may be more. -/
structure Bt (g : Nat) (w w' : World) : Prop where
  os : w'.os = w.os
  tape : w'.tape = w.tape
  output : w'.output = w.output
  size : w.heap.size ≤ w'.heap.size
  block : ∀ k, k < w.heap.size → k ≠ g → w'.heap[k]? = w.heap[k]?
theorem But.bt {g : Nat} {w w' : World} (h : But g w w') : Bt g w w' := ⟨h.os, h.tape, h.output, by rw [h.size]; exact Nat.le_refl _, fun k _ hne => h.block k hne⟩
theorem bt_below {g : Nat} {w w' : World} (h : Below w.heap.size w w') : Bt g w w' := ⟨h.os, h.tape, h.output, h.size, fun k hk _ => h.block k hk⟩
theorem Bt.trans {g : Nat} {a b c : World} (h : Bt g a b) (h2 : Bt g b c) : Bt g a c :=
  ⟨h2.os.trans h.os, h2.tape.trans h.tape, h2.output.trans h.output, Nat.le_trans h.size h2.size, fun k hk hne => (h2.block k (Nat.lt_of_lt_of_le hk h.size) hne).trans (h.block k hk hne)⟩
theorem Bt.refl (g : Nat) (w : World) : Bt g w w := ⟨rfl, rfl, rfl, Nat.le_refl _, fun _ _ _ => rfl⟩
theorem Bt.but {g : Nat} {w w' : World} (h : Bt g w w') (hs : w'.heap.size = w.heap.size) (hb : ∀ k, k ≠ g → w'.heap[k]? = w.heap[k]?) : But g w w' := ⟨h.os, h.tape, h.output, hs, hb⟩
theorem Bt.below {g B : Nat} {w w' : World} (h : Bt g w w') (hB : B ≤ g) (hz : B ≤ w.heap.size) : Below B w w' := ⟨h.os, h.tape, h.output, h.size, fun k hk => h.block k (by omega) (by omega)⟩
theorem Blk.bt {g g' : Nat} {w w' : World} {t : TypeId} {cs : Array Value} (h : Blk w g t cs) (hb : Bt g' w w') (hne : g ≠ g') : Blk w' g t cs := (hb.block g h.lt hne).trans h
theorem RdIs.below {w w' : World} {g : Nat} {st : RSt} (h : RdIs w g st) (hb : Below w.heap.size w w') : RdIs w' g st := by
  obtain ⟨s, e, h1, h2⟩ := h; exact ⟨s, e, h1.later hb, h2⟩
theorem RdIs.lt {w : World} {g : Nat} {st : RSt} (h : RdIs w g st) : g < w.heap.size := by
  obtain ⟨s, e, h1, h2⟩ := h; exact h1.lt

set_option maxHeartbeats 4000000 in
theorem fails_any (g : Nat) (s s2 : ByteArray) (e e2 : Int) (w : World) (hb : Blk w g 87 #[.string s, .int .i64 e]) :
    Calls Tryz.prog 76 #[.pointer (some ⟨g, 0, none⟩), .int .i64 e2, .string s2] w fun x w' => x = .returned (.tuple #[]) ∧ (Blk w' g 87 #[.string s2, .int .i64 e2] ∧ But g w w') := by
  go_enter Tryz.func76, Tryz.ntmps76
  go_wp2_with (first
    | (refine ev_field (ty := 31) (x := .tmp 11) (y := .tmp 8) (g := g) (i := 1) (v := .int .i64 e2) ?_ ?_ ?_ ?_ ?_ ?_ ?_ hb ?_ ?_; (rfl); (rfl); (rfl); (rfl); (rfl); (rfl); (kernel_rfl); (simp)
       intro w2 g2 hb2)
    | (refine ev_field (ty := 9) (x := .tmp 13) (y := .tmp 9) (g := g) (i := 0) (v := .string s2) ?_ ?_ ?_ ?_ ?_ ?_ ?_ g2 ?_ ?_; (rfl); (rfl); (rfl); (rfl); (rfl); (rfl); (kernel_rfl); (simp)
       intro w3 g3 hb3))
  go_end0
  exact ⟨rfl, by simpa using g3, hb3.os.trans hb2.os, hb3.tape.trans hb2.tape, hb3.output.trans hb2.output, hb3.size.trans hb2.size, fun k hk => (hb3.block k hk).trans (hb2.block k hk)⟩

def endB (st : RSt) : Int → Prop := fun e => match st with | some [] => e = 0 | _ => (e == 0) = false
def SomeInt (P : Int → Prop) (x : Ending) : Prop := ∃ e : Int, P e ∧ x = .returned (.int .i64 e)

set_option maxHeartbeats 4000000 in
theorem end_any (g : Nat) (st : RSt) (w : World) (h : RdIs w g st) :
    Calls Tryz.prog 60 #[.pointer (some ⟨g, 0, none⟩)] w fun x w' => SomeInt (endB st) x ∧ w = w' := by
  obtain ⟨s, e, hb, hs, hst⟩ := h
  cases st with
  | none =>
    have he : (e == 0) = false := hst
    have he2 : (e != 0) = true := by rw [bne, he]; rfl
    clear hst
    go_enter Tryz.func60, Tryz.ntmps60
    go_wp2_with (go_at_call 32; refine (err_any g s e _ hb).mono ?_; rintro x w' ⟨rfl, rfl⟩)
    go_ret
    exact ⟨⟨e, he, rfl⟩, rfl⟩
  | some l =>
    obtain ⟨rfl, rfl⟩ := hst
    by_cases hz : s.size = 0
    · have hz2 : ((s.size : Int) == 0) = true := by rw [beq_iff_eq]; omega
      have HE := Lib.hid (show L s = [] from List.length_eq_zero_iff.mp (by rw [L_len]; exact hz))
      clear hz
      go_enter Tryz.func60, Tryz.ntmps60
      go_wp2_with (first
        | (go_at_call 32; refine (err_any g s 0 _ hb).mono ?_; rintro x w' ⟨rfl, rfl⟩)
        | (go_at_call 77; refine (left_any g s 0 _ hb).mono ?_; rintro x w' ⟨rfl, rfl⟩))
      go_ret
      exact ⟨⟨0, by rw [HE.out]; exact rfl, rfl⟩, rfl⟩
    · have hz2 : ((s.size : Int) == 0) = false := by rw [beq_eq_false_iff_ne]; omega
      have HE := Lib.hid (show L s ≠ [] from fun e => hz (by rw [← L_len, e]; rfl))
      clear hz
      go_enter Tryz.func60, Tryz.ntmps60
      go_wp2_with (first
        | (go_at_call 32; refine (err_any g s 0 _ hb).mono ?_; rintro x w' ⟨rfl, rfl⟩)
        | (go_at_call 77; refine (left_any g s 0 _ hb).mono ?_; rintro x w' ⟨rfl, rfl⟩))
      go_ret
      refine ⟨⟨4, ?_, rfl⟩, rfl⟩
      have := HE.out
      unfold endB
      cases hL : L s with
      | nil => exact absurd hL this
      | cons a b => rfl

def tailT (most n : Nat) (st : RSt) : List UInt8 × RSt := match st with
  | none => ([], none)
  | some l => if most < n then ([], none) else takeR n (some l)
theorem textR_tail (most : Nat) {n : Nat} {st st1 : RSt} (h : numR 2 st = (n, st1)) : textR most st = tailT most n st1 := by
  unfold textR tailT; rw [h]; cases st1 <;> rfl
theorem tailT_long {most n : Nat} {l : List UInt8} (h : most < n) : tailT most n (some l) = ([], none) := by unfold tailT; dsimp only; rw [if_pos h]
theorem tailT_yes {most n : Nat} {l : List UInt8} (h : ¬ most < n) : tailT most n (some l) = takeR n (some l) := by unfold tailT; dsimp only; rw [if_neg h]

set_option maxRecDepth 100000 in
set_option maxHeartbeats 4000000 in
theorem rText_any (most : Nat) (g : Nat) (st : RSt) (w : World) (h : RdIs w g st) (hm : most ≤ 65535) :
    Calls Tryz.prog 58 #[.pointer (some ⟨g, 0, none⟩), .int .i64 most] w fun x w' => x = .returned (.string (B (textR most st).1)) ∧ (RdIs w' g (textR most st).2 ∧ But g w w') := by
  have hN := Lib.hid (rNum_read 2 g st w h (by omega) (by omega))
  obtain ⟨s, e, hb, hs, hst⟩ := h
  have hrefl : But g w w := ⟨rfl, rfl, rfl, rfl, fun _ _ => rfl⟩
  cases st with
  | none =>
    have he : (e == 0) = false := hst
    have he2 : (e != 0) = true := by rw [bne, he]; rfl
    clear hst
    have HH := Lib.hid (show RdIs w g (textR most none).2 from ⟨s, e, hb, hs, he⟩)
    go_enter Tryz.func58, Tryz.ntmps58
    go_wp2_with (go_at_call 32; refine (err_any g s e _ hb).mono ?_; rintro x w' ⟨rfl, rfl⟩)
    go_ret
    exact ⟨rfl, HH.out, hrefl⟩
  | some l =>
    obtain ⟨rfl, rfl⟩ := hst
    obtain ⟨n, st1, hr⟩ : ∃ n st1, numR 2 (some (L s)) = (n, st1) := ⟨_, _, rfl⟩
    have hlt : n < 65536 := by
      have := numR_lt (n := 2) (st := some (L s))
      rw [hr] at this; exact this
    rw [hr] at hN
    have HT := Lib.hid (textR_tail most hr)
    clear hr
    have hc0 := hb.cell
    go_enter Tryz.func58, Tryz.ntmps58
    go_wp2_with (first
        | (go_at_call 32; refine (err_any g s 0 _ hb).mono ?_; rintro x w' ⟨rfl, rfl⟩))
    refine hN.out.mono ?_
    rintro x w1 ⟨rfl, hr1, hb1⟩
    have HTk := Lib.hid (take_any n g st1 w1 hr1 (by omega))
    obtain ⟨s1, e1, b1, z1, t1⟩ := hr1
    have c1 := b1.cell
    clear hc0
    cases st1 with
    | none =>
      have he : (e1 == 0) = false := t1
      clear t1
      go_wp2_with (first
        | (go_at_call 30; refine HTk.out.mono ?_; rintro x w2 ⟨rfl, hr2, hb2⟩; obtain ⟨s2, e2, b2, z2, t2⟩ := hr2; have he2 : (e2 == 0) = false := t2; have he3 : (e2 != 0) = true := (by rw [bne, he2]; rfl); clear t2; have c2 := b2.cell)
        | (go_at_call 76; refine (fails_any g s2 s e2 e2 _ b2).mono ?_; rintro x w3 ⟨rfl, b3, hb3⟩))
      go_ret
      rw [HT.out]
      exact ⟨rfl, ⟨s, e2, b3, hs, he2⟩, ((hb1.bt.trans hb2.bt).trans hb3.bt).but (by rw [hb3.size, hb2.size, hb1.size]) (fun k hk => (hb3.block k hk).trans ((hb2.block k hk).trans (hb1.block k hk)))⟩
    | some l1 =>
      obtain ⟨rfl, rfl⟩ := t1
      by_cases hgt : most < n
      · have dg : decide ((most : Int) < (n : Int)) = true := decide_eq_true (by omega)
        rw [tailT_long hgt] at HT
        clear HTk
        go_wp2_with (first
          | (refine ev_field (ty := 31) (x := .tmp 29) (y := .const (.int .i64 6)) (g := g) (i := 1) (v := .int .i64 6) ?_ ?_ ?_ ?_ ?_ ?_ ?_ b1 ?_ ?_; (rfl); (rfl); (rfl); (rfl); (rfl); (rfl); (kernel_rfl); (simp)
             intro w15 b15 hb15
             have HTk := Lib.hid (take_any n g none w15 ⟨s1, 6, by simpa using b15, z1, rfl⟩ (by omega))
             clear c1)
          | (go_at_call 30; refine HTk.out.mono ?_; rintro x w2 ⟨rfl, hr2, hb2⟩; obtain ⟨s2, e2, b2, z2, t2⟩ := hr2; have he2 : (e2 == 0) = false := t2; have he3 : (e2 != 0) = true := (by rw [bne, he2]; rfl); clear t2; have c2 := b2.cell)
          | (go_at_call 76; refine (fails_any g s2 s e2 e2 _ b2).mono ?_; rintro x w3 ⟨rfl, b3, hb3⟩))
        go_ret
        rw [HT.out]
        exact ⟨rfl, ⟨s, e2, b3, hs, he2⟩, (((hb1.bt.trans hb15.bt).trans hb2.bt).trans hb3.bt).but (by rw [hb3.size, hb2.size, hb15.size, hb1.size]) (fun k hk => (hb3.block k hk).trans ((hb2.block k hk).trans ((hb15.block k hk).trans (hb1.block k hk))))⟩
      · have dg : decide ((most : Int) < (n : Int)) = false := decide_eq_false (by omega)
        rw [tailT_yes hgt] at HT
        by_cases hle : n ≤ (L s1).length
        · have hT2 : takeR n (some (L s1)) = ((L s1).take n, some ((L s1).drop n)) := by unfold takeR; dsimp only; rw [if_pos hle]
          rw [hT2] at HTk HT
          clear hT2
          go_wp2_with (go_at_call 30; refine HTk.out.mono ?_; rintro x w2 ⟨rfl, hr2, hb2⟩; obtain ⟨s2, e2, b2, z2, t21, t22⟩ := hr2; subst t22; have T21 := Lib.hid t21; clear t21; have c2 := b2.cell)
          go_ret
          rw [HT.out]
          exact ⟨rfl, ⟨s2, 0, b2, z2, T21.out, rfl⟩, (hb1.bt.trans hb2.bt).but (by rw [hb2.size, hb1.size]) (fun k hk => (hb2.block k hk).trans (hb1.block k hk))⟩
        · have hT2 : takeR n (some (L s1)) = ([], none) := by unfold takeR; dsimp only; rw [if_neg hle]
          rw [hT2] at HTk HT
          clear hT2
          go_wp2_with (first
            | (go_at_call 30; refine HTk.out.mono ?_; rintro x w2 ⟨rfl, hr2, hb2⟩; obtain ⟨s2, e2, b2, z2, t2⟩ := hr2; have he2 : (e2 == 0) = false := t2; have he3 : (e2 != 0) = true := (by rw [bne, he2]; rfl); clear t2; have c2 := b2.cell)
            | (go_at_call 76; refine (fails_any g s2 s e2 e2 _ b2).mono ?_; rintro x w3 ⟨rfl, b3, hb3⟩))
          go_ret
          rw [HT.out]
          exact ⟨rfl, ⟨s, e2, b3, hs, he2⟩, ((hb1.bt.trans hb2.bt).trans hb3.bt).but (by rw [hb3.size, hb2.size, hb1.size]) (fun k hk => (hb3.block k hk).trans ((hb2.block k hk).trans (hb1.block k hk)))⟩

end Go.Proofs.YtnlpohcnlmdocaaGreat
