/- What reads bytes: octet.New, Err, Left, End, Take, Num. -/
import Derived.Test.YtnlpohcnlmdocaaGreatGet
import Derived.Test.YtnlpohcnlmdocaaGreatNumL
namespace Go.Proofs.YtnlpohcnlmdocaaGreat
open Go.Shelf Go.RowKit
set_option linter.unusedVariables false
set_option linter.unusedSimpArgs false

/-- A reader in block g: what is left, or it has failed. -/
def RdIs (w : World) (g : Nat) (st : RSt) : Prop := ∃ (s : ByteArray) (e : Int), Blk w g 87 #[.string s, .int .i64 e] ∧ s.size ≤ 140737488355328 ∧ match st with | some l => l = L s ∧ e = 0 | none => (e == 0) = false

set_option maxHeartbeats 1000000 in
theorem oNew_any (s : ByteArray) (w : World) (hs : s.size ≤ 140737488355328) :
    Calls Tryz.prog 29 #[.string s] w fun e w' => e = .returned (.pointer (some ⟨w.heap.size, 0, none⟩)) ∧ (RdIs w' w.heap.size (some (L s)) ∧ Below w.heap.size w w') := by
  go_enter Tryz.func29, Tryz.ntmps29
  go_wp2
  go_ret
  exact ⟨rfl, ⟨s, 0, Blk.new _ _ _, hs, rfl, rfl⟩, balloc (Below.refl _ _)⟩

set_option maxHeartbeats 1000000 in
theorem err_any (g : Nat) (s : ByteArray) (e : Int) (w : World) (h : Blk w g 87 #[.string s, .int .i64 e]) :
    Calls Tryz.prog 32 #[.pointer (some ⟨g, 0, none⟩)] w fun x w' => x = .returned (.int .i64 e) ∧ w = w' := by
  have hc := h.cell
  go_enter Tryz.func32, Tryz.ntmps32
  go_wp2
  go_ret
  exact ⟨rfl, rfl⟩

set_option maxHeartbeats 1000000 in
theorem left_any (g : Nat) (s : ByteArray) (e : Int) (w : World) (h : Blk w g 87 #[.string s, .int .i64 e]) :
    Calls Tryz.prog 77 #[.pointer (some ⟨g, 0, none⟩)] w fun x w' => x = .returned (.int .i64 s.size) ∧ w = w' := by
  have hc := h.cell
  go_enter Tryz.func77, Tryz.ntmps77
  go_wp2
  go_ret
  exact ⟨rfl, rfl⟩

set_option maxHeartbeats 4000000 in
theorem take_any (n : Nat) (g : Nat) (st : RSt) (w : World) (h : RdIs w g st) (hn : n ≤ 140737488355328) :
    Calls Tryz.prog 30 #[.pointer (some ⟨g, 0, none⟩), .int .i64 n] w fun x w' => x = .returned (.string (B (takeR n st).1)) ∧ (RdIs w' g (takeR n st).2 ∧ But g w w') := by
  obtain ⟨s, e, hb, hs, hst⟩ := h
  have hc := hb.cell
  have hrefl : But g w w := ⟨rfl, rfl, rfl, rfl, fun _ _ => rfl⟩
  cases st with
  | none =>
    have he : (e == 0) = false := hst
    have he2 : (e != 0) = true := by rw [bne, he]; rfl
    clear hst
    have HH := Lib.hid (show RdIs w g (takeR n none).2 from ⟨s, e, hb, hs, he⟩)
    go_enter Tryz.func30, Tryz.ntmps30
    go_wp2_with (go_at_call 32; refine (err_any g s e _ hb).mono ?_; rintro x w' ⟨rfl, rfl⟩)
    go_ret
    exact ⟨rfl, HH.out, hrefl⟩
  | some l =>
    obtain ⟨rfl, rfl⟩ := hst
    have dn : decide ((n : Int) < 0) = false := decide_eq_false (by omega)
    by_cases hl : n ≤ s.size
    · have dl : decide ((s.size : Int) < (n : Int)) = false := decide_eq_false (by omega)
      have hni : (n : Int) ≤ (s.size : Int) := by omega
      have HT := Lib.hid (show takeR n (some (L s)) = (L (s.extract 0 n), some (L (s.extract n s.size))) by
        unfold takeR; dsimp only; rw [if_pos (by rw [L_len]; exact hl), L_upto, L_from])
      have hz : (s.extract n s.size).size ≤ 140737488355328 := by rw [ByteArray.size_extract]; omega
      have HZ := Lib.hid hz
      clear hz
      go_enter Tryz.func30, Tryz.ntmps30
      go_wp2_with (first
        | (go_at_call 32; refine (err_any g s 0 _ hb).mono ?_; rintro x w' ⟨rfl, rfl⟩)
        | (refine ev_field (ty := 9) (x := .tmp 40) (y := .tmp 38) (g := g) (i := 0) (v := .string (s.extract n s.size)) ?_ ?_ ?_ ?_ ?_ ?_ ?_ hb ?_ ?_; (rfl); (rfl); (rfl); (rfl); (rfl); (rfl); (kernel_rfl); (simp)
           intro w2 g2 hbt))
      go_ret
      exact ⟨by rw [HT.out]; exact ret_str (B_L _).symm, by rw [HT.out]; exact ⟨_, 0, g2, HZ.out, rfl, rfl⟩, hbt⟩
    · have dl : decide ((s.size : Int) < (n : Int)) = true := decide_eq_true (by omega)
      have HT := Lib.hid (show takeR n (some (L s)) = ([], none) by
        unfold takeR; dsimp only; rw [if_neg (by rw [L_len]; exact hl)])
      go_enter Tryz.func30, Tryz.ntmps30
      go_wp2_with (first
        | (go_at_call 32; refine (err_any g s 0 _ hb).mono ?_; rintro x w' ⟨rfl, rfl⟩)
        | (refine ev_field (ty := 31) (x := .tmp 25) (y := .const (.int .i64 3)) (g := g) (i := 1) (v := .int .i64 3) ?_ ?_ ?_ ?_ ?_ ?_ ?_ hb ?_ ?_; (rfl); (rfl); (rfl); (rfl); (rfl); (rfl); (kernel_rfl); (simp)
           intro w2 g2 hbt))
      go_ret
      exact ⟨by rw [HT.out]; rfl, by rw [HT.out]; exact ⟨s, 3, g2, hs, rfl⟩, hbt⟩

set_option maxHeartbeats 4000000 in
theorem rNum_read (n : Nat) (g : Nat) (st : RSt) (w : World) (h : RdIs w g st) (h1 : 1 ≤ n) (h7 : n ≤ 7) :
    Calls Tryz.prog 31 #[.pointer (some ⟨g, 0, none⟩), .int .i64 n] w fun x w' => x = .returned (.int .i64 (numR n st).1) ∧ (RdIs w' g (numR n st).2 ∧ But g w w') := by
  have hT := Lib.hid (take_any n g st w h (by omega))
  have hlen : (B (takeR n st).1).size ≤ 7 := by rw [B_size]; have := takeR_len n st; omega
  have hget := fun W => get_any (B (takeR n st).1) W hlen
  have HG := Lib.hid hget
  clear hget hlen
  obtain ⟨s, e, hb, hs, hst⟩ := h
  have hrefl : But g w w := ⟨rfl, rfl, rfl, rfl, fun _ _ => rfl⟩
  have d1 : decide ((n : Int) < 1) = false := decide_eq_false (by omega)
  have d7 : decide ((7 : Int) < (n : Int)) = false := decide_eq_false (by omega)
  cases st with
  | none =>
    have he : (e == 0) = false := hst
    have he2 : (e != 0) = true := by rw [bne, he]; rfl
    clear hst
    have HH := Lib.hid (show RdIs w g (numR n none).2 from ⟨s, e, hb, hs, he⟩)
    go_enter Tryz.func31, Tryz.ntmps31
    go_wp2_with (go_at_call 32; refine (err_any g s e _ hb).mono ?_; rintro x w' ⟨rfl, rfl⟩)
    go_ret
    exact ⟨rfl, HH.out, hrefl⟩
  | some l =>
    obtain ⟨rfl, rfl⟩ := hst
    generalize hr : takeR n (some (L s)) = r at *
    have HR := Lib.hid hr
    clear hr
    go_enter Tryz.func31, Tryz.ntmps31
    go_wp2_with (first
        | (go_at_call 32; refine (err_any g s 0 _ hb).mono ?_; rintro x w' ⟨rfl, rfl⟩)
        | (go_at_call 30; refine hT.out.mono ?_; rintro x w2 ⟨rfl, hr2, hbt⟩)
        | (go_at_call 57; refine (HG.out _).mono ?_; rintro x w3 ⟨rfl, rfl⟩))
    go_ret
    unfold numR
    rw [HR.out]
    exact ⟨rfl, hr2, hbt⟩

end Go.Proofs.YtnlpohcnlmdocaaGreat
