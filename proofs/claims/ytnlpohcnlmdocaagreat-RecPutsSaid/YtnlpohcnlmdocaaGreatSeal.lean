/- Sealed texts: (*crc.Table).Seal, Open. -/
import Derived.Test.YtnlpohcnlmdocaaGreatSum
import Derived.Test.YtnlpohcnlmdocaaGreatNumL
import Derived.Laws.BytesArg
import Derived.Laws.IdiomStrings
namespace Go.Proofs.YtnlpohcnlmdocaaGreat
open Go.Shelf Go.RowKit
set_option linter.unusedVariables false
set_option linter.unusedSimpArgs false

def wordCells (x : Nat) : Array Value := #[.int .u8 ((x : Int) / 16777216), .int .u8 ((x : Int) / 65536 % 256), .int .u8 ((x : Int) / 256 % 256), .int .u8 ((x : Int) % 256)]
theorem wordCells_eq {x : Nat} (h : x < 4294967296) : wordCells x = ((numL 4 x).map fun b => Value.int .u8 b.toNat).toArray := by
  unfold wordCells
  have e : numL 4 x = [UInt8.ofNat (x / 16777216), UInt8.ofNat (x / 65536 % 256), UInt8.ofNat (x / 256 % 256), UInt8.ofNat (x % 256)] := by
    simp only [numL, List.nil_append, List.cons_append]
    rw [show x / 256 / 256 / 256 % 256 = x / 16777216 by omega, show x / 256 / 256 % 256 = x / 65536 % 256 by omega]
  rw [e]
  simp only [List.map_cons, List.map_nil]
  have hb : ∀ n : Nat, n < 256 → ((UInt8.ofNat n).toNat : Int) = (n : Int) := fun n hn => by simp; omega
  rw [hb _ (by omega), hb _ (by omega), hb _ (by omega), hb _ (by omega)]
  rw [show ((x / 16777216 : Nat) : Int) = (x : Int) / 16777216 by omega, show ((x / 65536 % 256 : Nat) : Int) = (x : Int) / 65536 % 256 by omega, show ((x / 256 % 256 : Nat) : Int) = (x : Int) / 256 % 256 by omega, show ((x % 256 : Nat) : Int) = (x : Int) % 256 by omega]

set_option maxRecDepth 100000 in
set_option maxHeartbeats 4000000 in
theorem word_any (x : Nat) (w : World) (hx : x < 4294967296) :
    Calls Tryz.prog 50 #[.int .i64 x] w fun e w' => e = .returned (.agg #[.int .u8 ((x : Int) / 16777216), .int .u8 ((x : Int) / 65536 % 256), .int .u8 ((x : Int) / 256 % 256), .int .u8 ((x : Int) % 256)]) ∧ w' = w.alloc (.cells #[.int .u8 ((x : Int) / 16777216), .int .u8 ((x : Int) / 65536 % 256), .int .u8 ((x : Int) / 256 % 256), .int .u8 ((x : Int) % 256)] 74) := by
  go_enter Tryz.func50, Tryz.ntmps50
  go_wp2
  exact bodyPost_ret (v := .agg #[.int .u8 ((x : Int) / 16777216), .int .u8 ((x : Int) / 65536 % 256), .int .u8 ((x : Int) / 256 % 256), .int .u8 ((x : Int) % 256)]) (by simp [results, Tryz.results50, go_sem]) rfl ⟨rfl, rfl⟩

def sealL (l : List UInt8) : List UInt8 := numL 4 (sumC l) ++ l

set_option maxRecDepth 100000 in
set_option maxHeartbeats 4000000 in
theorem seal_any (b : Nat) (s : ByteArray) (w : World) (hs : s.size ≤ 9223372036854775800) (ht : TabAt w b) :
    Calls Tryz.prog 26 #[.pointer (some ⟨b, 0, none⟩), .string s] w fun e w' => e = .returned (.string (B (sealL (L s)))) ∧ Below w.heap.size w w' := by
  have HT := Lib.hid ht
  clear ht
  have hl := sumC_lt (L s)
  have HB := Below.refl w.heap.size w
  have hS := sum_any b w.heap.size s (w.alloc (.cells #[.string s] 9)) hs (HT.out.below (balloc HB)) (by rw [(Blk.new w 9 #[.string s]).cell]; rfl)
  have HZ := Lib.hid (show sealL (L s) = numL 4 (sumC (L s)) ++ L s from rfl)
  have HW := Lib.hid (wordCells_eq hl)
  generalize sumC (L s) = x at *
  have hcv : ∀ q : Nat, Sem.run Tryz.prog (convert 72 9 (.slice (some ⟨w.heap.size + 1 + 1, 0, none⟩) 4 4)) ((((w.alloc (.cells #[.string s] 9)).drewN q).alloc (.cells #[.int .u8 ((x : Int) / 16777216), .int .u8 ((x : Int) / 65536 % 256), .int .u8 ((x : Int) / 256 % 256), .int .u8 ((x : Int) % 256)] 74)).alloc (.cells #[.int .u8 ((x : Int) / 16777216), .int .u8 ((x : Int) / 65536 % 256), .int .u8 ((x : Int) / 256 % 256), .int .u8 ((x : Int) % 256)] 74))
      = .ok (.string (B (numL 4 x))) ((((w.alloc (.cells #[.string s] 9)).drewN q).alloc (.cells #[.int .u8 ((x : Int) / 16777216), .int .u8 ((x : Int) / 65536 % 256), .int .u8 ((x : Int) / 256 % 256), .int .u8 ((x : Int) % 256)] 74)).alloc (.cells #[.int .u8 ((x : Int) / 16777216), .int .u8 ((x : Int) / 65536 % 256), .int .u8 ((x : Int) / 256 % 256), .int .u8 ((x : Int) % 256)] 74)) := fun q => by
    have e : (#[.int .u8 ((x : Int) / 16777216), .int .u8 ((x : Int) / 65536 % 256), .int .u8 ((x : Int) / 256 % 256), .int .u8 ((x : Int) % 256)] : Array Value) = ((numL 4 x).map fun b => Value.int .u8 b.toNat).toArray := HW.out
    rw [e]
    have hn := heap_alloc2_new ((w.alloc (.cells #[.string s] 9)).drewN q) (.cells ((numL 4 x).map fun b => Value.int .u8 b.toNat).toArray 74) (.cells ((numL 4 x).map fun b => Value.int .u8 b.toNat).toArray 74)
    have hz : ((w.alloc (.cells #[.string s] 9)).drewN q).heap.size = w.heap.size + 1 := by simp [World.drewN]
    rw [hz] at hn
    have := run_convert_bytes_back (P := Tryz.prog) ((((w.alloc (.cells #[.string s] 9)).drewN q).alloc (.cells ((numL 4 x).map fun b => Value.int .u8 b.toNat).toArray 74)).alloc (.cells ((numL 4 x).map fun b => Value.int .u8 b.toNat).toArray 74)) 72 9 5 ⟨w.heap.size + 1 + 1, 0, none⟩ 4 (numL 4 x) Tryz.underlying72 Tryz.underlying5 Tryz.underlying9 (fun j hj => by
        have e : (Addr.mk (w.heap.size + 1 + 1) 0 none).add j = ⟨w.heap.size + 1 + 1, j, none⟩ := by unfold Addr.add; split <;> simp_all
        rw [e, cell_of_row _ _ _ _ _ _ hn]; simp [hj])
    rw [numL_len] at this
    exact this
  have hcat : (B (numL 4 x)).size + s.size ≤ 9223372036854775807 := by rw [B_size, numL_len]; omega
  go_enter Tryz.func26, Tryz.ntmps26
  go_wp2_with (first
    | (go_at_call 51; refine hS.mono ?_; rintro e w' ⟨rfl, hd⟩; obtain ⟨q, rfl⟩ := hd)
    | (go_at_call 50; refine (word_any x _ hl).mono ?_; rintro e w' ⟨rfl, rfl⟩))
  go_ret
  exact ⟨ret_str (L_inj (by rw [L_app, L_B, L_B]; exact HZ.out.symm)), balloc (balloc (bdrewN (balloc HB)))⟩

end Go.Proofs.YtnlpohcnlmdocaaGreat
