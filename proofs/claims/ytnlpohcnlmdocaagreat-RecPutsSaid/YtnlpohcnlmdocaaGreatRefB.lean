/- The document's bytes of numbers, texts and lists, and its sums: reveilleref01.Num, Text, List, reveilleref02.Sum, Seal. -/
import Derived.Test.YtnlpohcnlmdocaaGreatBits
import Derived.Test.YtnlpohcnlmdocaaGreatNumL
import Derived.Test.YtnlpohcnlmdocaaGreatAll
import Derived.Laws.BytesArg
import Derived.Laws.IdiomStrings
namespace Go.Proofs.YtnlpohcnlmdocaaGreat
open Go.Shelf Go.RowKit
set_option linter.unusedVariables false
set_option linter.unusedSimpArgs false

theorem num_step {n k x : Nat} (s : ByteArray) (hs : L s = numL k x) : L (B [UInt8.ofNat (x / 256 ^ k % 256)] ++ s) = numL (k + 1) x := by
  rw [L_app, L_B, hs, numL_head]; rfl

set_option maxRecDepth 100000 in
set_option maxHeartbeats 4000000 in
theorem rNumB_any (n x : Nat) (w : World) (hn : n ≤ 7) (h1 : x ≤ 9223372036854775807) :
    Calls Tryz.prog 22 #[.int .i64 n, .int .i64 x] w fun e w' => e = .returned (.string (B (numL n x))) ∧ Below w.heap.size w w' := by
  have HB0 := Lib.hid (Below.refl w.heap.size w)
  go_enter Tryz.func22, Tryz.ntmps22
  go_wp2
  go_loopw [1, 5, 6] (fun v s i wr => ∃ (k : Nat) (t : ByteArray) (y : Nat), k ≤ n ∧ i = .int .i64 k ∧ v = .int .i64 y ∧ s = .string t ∧ t.size ≤ 7 ∧ y ≤ 9223372036854775807 ∧ Hid (y = x / 256 ^ k) ∧ Hid (L t = numL k x) ∧ Hid (Below w.heap.size w wr)) (fun _ _ i _ => n - (intOf i).toNat)
  case atStart => exact ⟨0, ⟨#[]⟩, x, Nat.zero_le _, rfl, rfl, rfl, Nat.zero_le _, h1, by show x = _; simp, rfl, HB0⟩
  case round =>
    obtain ⟨k, t, y, hk, rfl, rfl, rfl, ht7, hy9, HY, HT, HB⟩ := hrel
    by_cases hlt : k < n
    · have HN := Lib.hid (num_step (n := n) t HT.out)
      rw [← HY.out] at HN
      have hcv := run_convert_bytes_back (P := Tryz.prog) (wr.alloc (.cells #[.int .u8 ((y : Int) % 256)] 5)) 72 9 5 ⟨wr.heap.size, 0, none⟩ 1 [UInt8.ofNat (y % 256)] Tryz.underlying72 Tryz.underlying5 Tryz.underlying9 (fun j hj => by
        have hj0 : j = 0 := by simpa using hj
        subst hj0
        have e : (Addr.mk wr.heap.size 0 none).add 0 = ⟨wr.heap.size, 0, none⟩ := by unfold Addr.add; simp
        have hb := cell_of_row _ _ 0 _ _ _ (heap_alloc_new wr (.cells #[.int .u8 ((y : Int) % 256)] 5))
        rw [e, hb]
        simp)
      change Sem.run _ (convert _ _ (.slice (some ⟨wr.heap.size, 0, none⟩) 1 1)) _ = .ok (.string (B [UInt8.ofNat (y % 256)])) _ at hcv
      have hsz : (B [UInt8.ofNat (y % 256)]).size + t.size ≤ 9223372036854775807 := by rw [B_size]; simp; omega
      have hz7 : (B [UInt8.ofNat (y % 256)] ++ t).size ≤ 7 := by
        have := congrArg List.length HN.out
        rw [L_len, numL_len] at this; omega
      have hy2 : y / 256 ≤ 9223372036854775807 := by omega
      have HY2 := Lib.hid (show y / 256 = x / 256 ^ (k + 1) by rw [HY.out, Nat.div_div_eq_div_mul, ← Nat.pow_succ])
      have hyd : (y : Int) / 256 = ((y / 256 : Nat) : Int) := by omega
      generalize hq : B [UInt8.ofNat (y % 256)] ++ t = t2 at *
      have HQ := Lib.hid hq
      generalize y / 256 = y2 at *
      clear hq
      go_wp2
      rw [HQ.out]
      go_roundw
      case rel => exact ⟨k + 1, t2, y2, by omega, by go_num, by first | rfl | (rw [hyd]), rfl, hz7, hy2, HY2, HN, balloc HB.out⟩
      case measure => simp [intOf]; omega
    · obtain rfl : k = n := by omega
      go_wp2
      go_ret
      exact ⟨ret_str (L_inj (by rw [HT.out, L_B])), HB.out⟩

set_option maxRecDepth 100000 in
set_option maxHeartbeats 4000000 in
theorem rTextB_any (s : ByteArray) (w : World) (hs : s.size ≤ 65535) :
    Calls Tryz.prog 23 #[.string s] w fun e w' => e = .returned (.string (B (textL (L s)))) ∧ Below w.heap.size w w' := by
  have hcat : (B (numL 2 s.size)).size + s.size ≤ 9223372036854775807 := by rw [B_size, numL_len]; omega
  have HT := Lib.hid (show B (numL 2 s.size) ++ s = B (textL (L s)) from L_inj (by rw [L_app, L_B, L_B, textL, L_len]))
  go_enter Tryz.func23, Tryz.ntmps23
  go_wp2_with (go_at_call 22; refine (rNumB_any 2 s.size _ (by omega) (by omega)).mono ?_; rintro e w' ⟨rfl, hb⟩)
  go_ret
  exact ⟨ret_str HT.out, hb⟩

set_option maxRecDepth 100000 in
set_option maxHeartbeats 4000000 in
theorem rListB_any (A : Option Addr) (c : Nat) (l : List ByteArray) (w : World) (hl : Strs w A l) (hn : l.length ≤ 255) (hx : ∀ x ∈ l, x.size ≤ 65535) :
    Calls Tryz.prog 24 #[.slice A l.length c] w fun e w' => e = .returned (.string (B (listL (l.map L)))) ∧ Below w.heap.size w w' := by
  have HL := Lib.hid hl
  have HX := Lib.hid hx
  clear hl hx
  go_enter Tryz.func24, Tryz.ntmps24
  go_wp2_with (go_at_call 22; refine (rNumB_any 1 l.length _ (by omega) (by omega)).mono ?_; rintro e w0 ⟨rfl, hb0⟩)
  have HB0 := Lib.hid hb0
  go_loopw [3, 4] (fun s i wr => ∃ (k : Nat) (t : ByteArray), k ≤ l.length ∧ i = .int .i64 k ∧ s = .string t ∧ t.size ≤ 1 + k * 65537 ∧ Hid (L t = numL 1 l.length ++ textsL ((l.take k).map L)) ∧ Hid (Below w.heap.size w wr)) (fun _ i _ => l.length - (intOf i).toNat)
  case atStart => exact ⟨0, B (numL 1 l.length), Nat.zero_le _, rfl, rfl, by rw [B_size, numL_len]; omega, by show _ = _; rw [L_B]; simp [textsL], HB0⟩
  case round =>
    obtain ⟨k, t, hk, rfl, rfl, htz, HT, HB⟩ := hrel
    by_cases hlt : k < l.length
    · obtain ⟨b, o, rfl, hc⟩ := (HL.out.below HB.out) (by intro e; subst e; simp at hlt)
      have hck := hc k hlt
      have hxk := HX.out l[k] (List.getElem_mem hlt)
      have HN := Lib.hid (show L (t ++ B (textL (L l[k]))) = numL 1 l.length ++ textsL ((l.take (k + 1)).map L) by
        rw [L_app, HT.out, L_B, List.take_succ_eq_append_getElem hlt, List.map_append, List.map_cons, List.map_nil, textsL_snoc, List.append_assoc])
      generalize l[k] = x at *
      clear hc
      have hz1 : (B (textL (L x))).size = 2 + x.size := by rw [B_size, textL, List.length_append, numL_len, L_len]
      have hcat : t.size + (B (textL (L x))).size ≤ 9223372036854775807 := by omega
      have hz2 : (t ++ B (textL (L x))).size ≤ 1 + (k + 1) * 65537 := by rw [ByteArray.size_append, hz1]; omega
      clear hz1
      go_wp2_with (go_at_call 23; refine (rTextB_any x _ hxk).mono ?_; rintro e w1 ⟨rfl, hb1⟩; have HB1 := Lib.hid (bstep HB.out hb1))
      go_roundw
      case rel => exact ⟨k + 1, _, by omega, by go_num, rfl, hz2, HN, HB1⟩
      case measure => simp [intOf]; omega
    · obtain rfl : k = l.length := by omega
      go_wp2
      go_ret
      exact ⟨ret_str (L_inj (by rw [HT.out, L_B, listL, List.length_map, List.take_length])), HB.out⟩

theorem stepC_int_even {x : Nat} (h : x % 2 = 0) : (x : Int) / 2 = ((stepC x : Nat) : Int) := by unfold stepC; rw [if_neg (by omega)]; omega
theorem stepC_int_odd {x : Nat} (h : x % 2 = 1) (hx : x < 4294967296) : bits .xor .i64 ((x : Int) / 2) 3988292384 = ((stepC x : Nat) : Int) := by
  have := i64_xor_nat (x / 2) 3988292384 (by omega) (by omega)
  unfold stepC; rw [if_pos h, ← this, show ((x / 2 : Nat) : Int) = (x : Int) / 2 by omega]; rfl

set_option maxRecDepth 100000 in
set_option maxHeartbeats 8000000 in
theorem rSumB_any (s : ByteArray) (w : World) (hs : s.size ≤ 9223372036854775800) :
    Calls Tryz.prog 49 #[.string s] w fun e w' => e = .returned (.int .i64 (sumC (L s))) ∧ w = w' := by
  go_enter Tryz.func49, Tryz.ntmps49
  go_wp2
  go_loop [3, 4] (fun v i => ∃ (k x : Nat), k ≤ s.size ∧ i = .int .i64 k ∧ v = .int .i64 x ∧ x < 4294967296 ∧ Hid (x = sumFrom 4294967295 ((L s).take k))) (fun _ i => s.size - (intOf i).toNat)
  case atStart => exact ⟨0, 4294967295, Nat.zero_le _, rfl, rfl, by omega, rfl⟩
  case round =>
    obtain ⟨k, x, hk, rfl, rfl, hx, HX⟩ := hrel
    by_cases hlt : k < s.size
    · have hb := s[k].toNat_lt
      have hlti : (k : Int) < (s.size : Int) := by omega
      have hk0 : (0 : Int) ≤ (k : Int) := by omega
      have hxo := i64_xor_nat x s[k].toNat (by omega) (by omega)
      have hx2 : x ^^^ s[k].toNat < 4294967296 := Nat.xor_lt_two_pow (n := 32) hx (by omega)
      have HN := Lib.hid (show sumFrom 4294967295 ((L s).take (k + 1)) = stepsC 8 (x ^^^ s[k].toNat) by rw [List.take_succ_eq_append_getElem (by rw [L_len]; exact hlt), sumFrom_snoc, ← HX.out]; rfl)
      obtain ⟨y, hy⟩ : ∃ y, x ^^^ s[k].toNat = y := ⟨_, rfl⟩
      rw [hy] at hxo hx2 HN
      clear hy
      go_wp2
      go_loop [3, 5] (fun v i => ∃ j : Nat, j ≤ 8 ∧ i = .int .i64 j ∧ v = .int .i64 (stepsC j y)) (fun _ i => 8 - (intOf i).toNat)
      case atStart => exact ⟨0, Nat.zero_le _, rfl, by first | rfl | (rw [hxo]; rfl)⟩
      case round =>
        obtain ⟨j, hj, rfl, rfl⟩ := hrel
        have hlt0 := stepsC_lt j hx2
        have hst := Lib.hid (stepsC_succ j y)
        by_cases hlt8 : j < 8
        · obtain ⟨z, hz⟩ : ∃ z, stepsC j y = z := ⟨_, rfl⟩
          rw [hz] at hst hlt0 ⊢
          clear hz
          rcases Nat.mod_two_eq_zero_or_one z with h2 | h2
          · have he := stepC_int_even h2
            have hm : ((z : Int) % 2 == 1) = false := by rw [beq_eq_false_iff_ne]; omega
            clear h2
            go_wp2
            go_round
            case rel => exact ⟨j + 1, by omega, by go_num, by rw [hst.out]⟩
            case measure => simp [intOf]; omega
          · have he := stepC_int_odd h2 hlt0
            have hm : ((z : Int) % 2 == 1) = true := by rw [beq_iff_eq]; omega
            clear h2
            go_wp2
            go_round
            case rel => exact ⟨j + 1, by omega, by go_num, by rw [hst.out]⟩
            case measure => simp [intOf]; omega
        · obtain rfl : j = 8 := by omega
          go_wp2
          go_round
          case rel => exact ⟨k + 1, _, by omega, by go_num, rfl, hlt0, HN.out.symm⟩
          case measure => simp [intOf]; omega
    · obtain rfl : k = s.size := by omega
      have HE := Lib.hid (show ((4294967295 : Int) - (x : Int)) = ((sumC (L s) : Nat) : Int) by
        have h := HX.out
        rw [List.take_of_length_le (by rw [L_len]; omega)] at h
        unfold sumC; rw [← h]; omega)
      go_wp2
      go_ret
      exact ⟨ret_int HE.out, rfl⟩

def sealD (l : List UInt8) : List UInt8 := numL 4 (sumC l) ++ l
set_option maxRecDepth 100000 in
set_option maxHeartbeats 4000000 in
theorem rSealB_any (s : ByteArray) (w : World) (hs : s.size ≤ 9223372036854775800) :
    Calls Tryz.prog 25 #[.string s] w fun e w' => e = .returned (.string (B (sealD (L s)))) ∧ Below w.heap.size w w' := by
  have hl := sumC_lt (L s)
  have hcat : (B (numL 4 (sumC (L s)))).size + s.size ≤ 9223372036854775807 := by rw [B_size, numL_len]; omega
  have HT := Lib.hid (show B (numL 4 (sumC (L s))) ++ s = B (sealD (L s)) from L_inj (by rw [L_app, L_B, L_B, sealD]))
  have hS := Lib.hid (rSumB_any s w hs)
  go_enter Tryz.func25, Tryz.ntmps25
  go_wp2_with (first
    | (go_at_call 49; refine hS.out.mono ?_; rintro e w' ⟨rfl, rfl⟩)
    | (go_at_call 22; refine (rNumB_any 4 (sumC (L s)) _ (by omega) (by omega)).mono ?_; rintro e w' ⟨rfl, hb⟩))
  go_ret
  exact ⟨ret_str HT.out, hb⟩

end Go.Proofs.YtnlpohcnlmdocaaGreat
