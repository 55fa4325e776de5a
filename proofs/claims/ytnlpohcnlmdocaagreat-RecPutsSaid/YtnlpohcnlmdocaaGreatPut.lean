/- Numbers as bytes: octet.put. -/
import Derived.Test.YtnlpohcnlmdocaaGreatEv
import Derived.Test.YtnlpohcnlmdocaaGreatProg
import Derived.Test.YtnlpohcnlmdocaaGreatNumL
import Derived.Deep.OwnRows
import Derived.Laws.BytesArg
import Derived.Laws.IdiomStrings
namespace Go.Proofs.YtnlpohcnlmdocaaGreat
open Go.Shelf Go.RowKit
set_option linter.unusedVariables false
set_option linter.unusedSimpArgs false

def putCells (n i x : Nat) : List Value := List.replicate (n - i) (.int .u8 0) ++ (numL i x).map (fun b => Value.int .u8 b.toNat)
theorem putCells_len {n i x : Nat} (h : i ≤ n) : (putCells n i x).length = n := by simp [putCells, numL_len]; omega
theorem putCells_set {n i x : Nat} (h : i < n) : (putCells n i x).set (n - 1 - i) (.int .u8 ((x / 256 ^ i % 256 : Nat) : Int)) = putCells n (i + 1) x := by
  unfold putCells
  rw [numL_head, show n - i = (n - (i + 1)) + 1 by omega, List.replicate_succ', List.append_assoc, List.set_append_right _ _ (by simp; omega)]
  have e : n - 1 - i - (List.replicate (n - (i + 1)) (Value.int .u8 0)).length = 0 := by simp; omega
  rw [e]
  have hb : ((UInt8.ofNat (x / 256 ^ i % 256)).toNat : Int) = ((x / 256 ^ i % 256 : Nat) : Int) := by
    simp
  simp [hb]
theorem putCells_seti {n i x : Nat} (h : i < n) : (putCells n i x).set (n - 1 - i) (.int .u8 ((x : Int) / 256 ^ i % 256)) = putCells n (i + 1) x := by
  rw [← putCells_set h]; congr 2
theorem putCells_made (n x : Nat) : madeCells #[Value.int .u8 0] n = (putCells n 0 x).toArray := by
  apply Array.ext'
  simp [madeCells, putCells, numL, Nat.mod_one, List.map_const']

theorem putCells_str (n x : Nat) : putCells n n x = (numL n x).map (fun b => Value.int .u8 b.toNat) := by simp [putCells]

set_option maxRecDepth 100000 in
set_option maxHeartbeats 4000000 in
theorem put_any (n x : Nat) (w : World) (hn : n ≤ 7) (h1 : x ≤ 9223372036854775807) :
    Calls Tryz.prog 55 #[.int .i64 n, .int .i64 x] w fun e w' => e = .returned (.string (B (numL n x))) ∧ Below w.heap.size w w' := by
  have hmk := run_make_row' (P := Tryz.prog) 72 5 (.int .u8 0) 1 Tryz.underlying72 (by kernel_rfl) rfl .i64 .i64 n (by omega) (by omega)
  rw [putCells_made n x] at hmk
  go_enter Tryz.func55, Tryz.ntmps55
  go_wp2
  have hbk : Blk (w.alloc (.cells (putCells n 0 x).toArray 5)) w.heap.size 5 (putCells n 0 x).toArray := Blk.new _ _ _
  have HB := Lib.hid (balloc (o := .cells (putCells n 0 x).toArray 5) (Below.refl w.heap.size w))
  go_loopw [1, 11] (fun v i wr => ∃ k : Nat, k ≤ n ∧ i = .int .i64 k ∧ v = .int .i64 ((x : Int) / 256 ^ k) ∧ Blk wr w.heap.size 5 (putCells n k x).toArray ∧ Hid (Below w.heap.size w wr)) (fun _ i _ => n - (intOf i).toNat)
  case atStart => exact ⟨0, Nat.zero_le _, rfl, by simp, hbk, HB⟩
  case round =>
    obtain ⟨k, hk, rfl, rfl, hb, HBr⟩ := hrel
    by_cases hlt : k < n
    · have hput := Lib.hid (putCells_seti (x := x) hlt)
      have hlen := Lib.hid (putCells_len (x := x) hk)
      go_wp2_with (first
    | (refine ev_field (ty := 5) (x := .tmp 21) (y := .tmp 20) (g := w.heap.size) (i := n - 1 - k) (v := .int .u8 ((x : Int) / 256 ^ k % 256)) ?_ ?_ ?_ ?_ ?_ ?_ ?_ hb ?_ ?_; (rfl); (rfl); (rfl); (rfl); (rfl); (rfl); (kernel_rfl); (have := hlen.out; simp; omega)
       intro w2 u2 hbt
       have HB2 : Below w.heap.size w w2 := HBr.out.trans (hbt.below (Nat.le_refl _))
       replace u2 : Blk w2 w.heap.size 5 (putCells n (k + 1) x).toArray := by rw [← hput.out]; simpa using u2))
      go_roundw
      case rel => exact ⟨k + 1, by omega, by go_num, by rw [Int.ediv_ediv_of_nonneg (Int.pow_nonneg (by omega)), ← Int.pow_succ], u2, HB2⟩
      case measure => simp [intOf]; omega
    · have hkn : k = n := by omega
      subst hkn
      have hcv := run_convert_bytes_back (P := Tryz.prog) wr 72 9 5 ⟨w.heap.size, 0, none⟩ k (numL k x) Tryz.underlying72 Tryz.underlying5 Tryz.underlying9 (fun j hj => by
        have e : (Addr.mk w.heap.size 0 none).add j = ⟨w.heap.size, j, none⟩ := by unfold Addr.add; split <;> simp_all
        rw [e, hb.cell, putCells_str]; simp [hj])
      rw [numL_len] at hcv
      go_wp2
      go_ret
      exact ⟨rfl, HBr.out⟩

end Go.Proofs.YtnlpohcnlmdocaaGreat
