/- What is wanted by number: name.Hash, (*tag.Filter).Quick. -/
import Derived.Test.YtnlpohcnlmdocaaDoorTag2
import Derived.Test.YtnlpohcnlmdocaaDoorRel
import Derived.Laws.BytesArg
namespace Go.Proofs.YtnlpohcnlmdocaaDoor
open Go.RowKit Go.Shelf
set_option linter.unusedSimpArgs false
set_option linter.unusedVariables false

theorem wrapq_i64 {n : Int} (h0 : -9223372036854775808 ≤ n) (h1 : n ≤ 9223372036854775807) : IntKind.i64.wrap n = n := by
  simp [IntKind.wrap, IntKind.bits, IntKind.signed]; omega
def hashN (l : List UInt8) : Nat := l.foldl (fun h b => (31 * h + b.toNat) % 4294967296) 0
theorem hashN_snoc (l : List UInt8) (b : UInt8) : hashN (l ++ [b]) = (31 * hashN l + b.toNat) % 4294967296 := by unfold hashN; rw [List.foldl_append]; rfl
theorem foldl_lt : ∀ (l : List UInt8) (h : Nat), h < 4294967296 → l.foldl (fun h b => (31 * h + b.toNat) % 4294967296) h < 4294967296
  | [], h, hh => hh
  | b :: l, h, _ => foldl_lt l _ (Nat.mod_lt _ (by decide))
theorem hashN_lt (l : List UInt8) : hashN l < 4294967296 := foldl_lt l 0 (by decide)

set_option maxRecDepth 100000 in
set_option maxHeartbeats 4000000 in
theorem hash_any (A : Option Addr) (c : Nat) (s : ByteArray) (w : World) (hl : Strs w A [s]) (hs : s.size ≤ 9223372036854775807) :
    Calls Tryd.prog 21 #[.slice A 1 c] w fun e w' => e = .returned (.int .i64 (hashN (L s))) ∧ w = w' := by
  obtain ⟨b, o, rfl, hc⟩ := hl (by simp)
  have c0 : w.cell? ⟨b, o, none⟩ = some (.string s) := hc 0 (by simp)
  clear hc hl
  go_enter Tryd.func21, Tryd.ntmps21
  go_wp2
  go_loop [3, 9] (fun v i => (v = .int .u32 0 ∧ i = .int .i64 0) ∨ (v = .int .u32 (hashN (L s)) ∧ i = .int .i64 1)) (fun _ i => 1 - (intOf i).toNat)
  case atStart => exact .inl ⟨rfl, rfl⟩
  case round =>
    rcases hrel with ⟨rfl, rfl⟩ | ⟨rfl, rfl⟩
    · go_wp2
      go_loop [3, 15] (fun v i => ∃ (k h : Nat), k ≤ s.size ∧ i = .int .i64 k ∧ v = .int .u32 h ∧ h < 4294967296 ∧ Hid (h = hashN ((L s).take k))) (fun _ i => s.size - (intOf i).toNat)
      case atStart => exact ⟨0, 0, Nat.zero_le _, rfl, rfl, by decide, rfl⟩
      case round =>
        obtain ⟨k, h, hk, rfl, rfl, hh, HH⟩ := hrel
        by_cases hlt : k < s.size
        · have hb := s[k].toNat_lt
          have hlti : (k : Int) < (s.size : Int) := by omega
          have hk0 : (0 : Int) ≤ (k : Int) := by omega
          have HN := Lib.hid (show (31 * h + s[k].toNat) % 4294967296 = hashN ((L s).take (k + 1)) by rw [List.take_succ_eq_append_getElem (by rw [L_len]; exact hlt), hashN_snoc, ← HH.out]; rfl)
          have hw1 : IntKind.u32.wrap (31 * (h : Int)) = ((31 * h % 4294967296 : Nat) : Int) := by rw [IntKind.wrap_u32]; omega
          have hw2 : IntKind.u32.wrap (((31 * h % 4294967296 : Nat) : Int) + (s[k].toNat : Int)) = (((31 * h + s[k].toNat) % 4294967296 : Nat) : Int) := by rw [IntKind.wrap_u32]; omega
          have hn2 : (31 * h + s[k].toNat) % 4294967296 < 4294967296 := Nat.mod_lt _ (by decide)
          go_wp2
          go_round
          case rel => exact ⟨k + 1, _, by omega, by go_num, by first | rfl | (congr 1; done) | (congr 1; omega), hn2, HN⟩
          case measure => simp [intOf]; omega
        · obtain rfl : k = s.size := by omega
          have HE := Lib.hid (show h = hashN (L s) by rw [HH.out, List.take_of_length_le (by rw [L_len]; omega)])
          go_wp2
          go_round
          case rel => exact .inr ⟨by rw [HE.out], by go_num⟩
          case measure => simp [intOf]
    · have hh := hashN_lt (L s)
      have hw : IntKind.i64.wrap (hashN (L s) : Int) = (hashN (L s) : Int) := wrapq_i64 (by omega) (by omega)
      go_wp2
      go_ret
      exact ⟨rfl, rfl⟩

def quickR (x : ByteArray) (h : Int) : Nat → Value → World → Prop
  | 0, v, _ => v = .string x
  | 1, v, w => ∃ b, v = .slice (some ⟨b, 0, none⟩) 1 1 ∧ Strs w (some ⟨b, 0, none⟩) [x]
  | 2, v, _ => v = .int .i64 (hashN (L x))
  | 3, v, _ => v = .int .i64 h
  | 4, v, _ => v = .bool ((hashN (L x) : Int) == h)
  | 5, v, _ => v = .bool ((hashN (L x) : Int) == h)
  | _, _, _ => True
theorem quickR_mono (x : ByteArray) (h : Int) : ∀ i v w1 w2, Below w1.heap.size w1 w2 → quickR x h i v w1 → quickR x h i v w2 := by
  intro i v w1 w2 hle hq
  match i with
  | 0 | 2 | 3 | 4 | 5 => exact hq
  | 1 => obtain ⟨b, e, hS⟩ := hq; exact ⟨b, e, hS.below hle⟩
  | _ + 6 => trivial

set_option maxRecDepth 100000 in
set_option maxHeartbeats 4000000 in
theorem quickC_any (x : ByteArray) (h : Int) (b : Nat) (w : World) (hc : w.cell? ⟨b, 0, none⟩ = some (.int .i64 h)) (hx : x.size ≤ 9223372036854775807) :
    Calls Tryd.prog 20 #[.string x, .pointer (some ⟨b, 0, none⟩)] w fun e w' => e = .returned (.bool ((hashN (L x) : Int) == h)) ∧ Below w.heap.size w w' := by
  go_enter Tryd.func20, Tryd.ntmps20
  go_wp2_with fail
  refine wp_region_put (by kernel_rfl) (fun a b => Below a.heap.size a b) (quickR x h) (by kernel_rfl) ?_ ?_ ?_ ?_ ?_
  · exact bdrew (Below.refl _ _)
  · exact fun _ _ _ h1 h2 => bstep h1 h2
  · exact quickR_mono x h
  · refine ⟨?_, ?_, ?_, ?_, ?_, ?_, trivial⟩
    · intro a w' hle hk hR K hK
      have k0 : a.tmps[0]?.getD undef = .string x := hk 0 (by kernel_rfl)
      refine ite_yes rfl ?_
      go_simp
      exact hK _ _ (Below.refl _ _) rfl
    · intro a w' hle hk hR K hK
      have k4 : a.tmps[4]?.getD undef = .string x := hR 0 (by kernel_rfl)
      refine ite_yes rfl ?_
      go_simp
      exact hK _ _ (balloc (Below.refl _ _)) ⟨_, rfl, strs_new [x] w'⟩
    · intro a w' hle hk hR K hK
      obtain ⟨b1, e5, hS⟩ := hR 1 (by kernel_rfl)
      replace e5 : a.tmps[5]?.getD undef = .slice (some ⟨b1, 0, none⟩) 1 1 := e5
      have HS := Lib.hid hS
      clear hS
      refine ite_yes rfl ?_
      go_simp
      refine (hash_any _ 1 x w' HS.out hx).mono ?_
      rintro e w'' ⟨rfl, rfl⟩
      exact hK _ _ (Below.refl _ _) rfl
    · intro a w' hle hk hR K hK
      have k1 : a.tmps[1]?.getD undef = .pointer (some ⟨b, 0, none⟩) := hk 1 (by kernel_rfl)
      have hc' : w'.cell? ⟨b, 0, none⟩ = some (.int .i64 h) := (hle.cell (p := ⟨b, 0, none⟩) (cell_lt hc)).trans hc
      refine ite_yes rfl ?_
      go_simp
      exact hK _ _ (Below.refl _ _) rfl
    · intro a w' hle hk hR K hK
      have k6 : a.tmps[6]?.getD undef = .int .i64 (hashN (L x)) := hR 2 (by kernel_rfl)
      have k7 : a.tmps[7]?.getD undef = .int .i64 h := hR 3 (by kernel_rfl)
      refine ite_yes rfl ?_
      go_simp
      exact hK _ _ (Below.refl _ _) rfl
    · intro a w' hle hk hR K hK
      have k8 : a.tmps[8]?.getD undef = .bool ((hashN (L x) : Int) == h) := hR 4 (by kernel_rfl)
      refine ite_yes rfl ?_
      go_simp
      exact hK _ _ (Below.refl _ _) rfl
  · intro f w' hle hR hN
    have f4 : f 4 = .string x := hR 0 4 (by kernel_rfl)
    have f3 : f 3 = .bool ((hashN (L x) : Int) == h) := hR 5 3 (by kernel_rfl)
    simp only [putAll, List.foldl_cons, List.foldl_nil, f4, f3, List.setIfInBounds_toArray, List.set_cons_succ, List.set_cons_zero]
    go_wp2
    go_ret
    exact ⟨rfl, hle⟩

theorem anyq_take {l : List ByteArray} {p : ByteArray → Bool} {k : Nat} (h : k < l.length) (hA : (l.take k).any p = false) (hk : p l[k] = false) : (l.take (k + 1)).any p = false := by
  rw [List.take_succ_eq_append_getElem h, List.any_append, hA]; simp [hk]
theorem anyq_bad {l : List ByteArray} {p : ByteArray → Bool} {k : Nat} (h : k < l.length) (hk : p l[k] = true) : l.any p = true := by
  rw [List.any_eq_true]; exact ⟨l[k], List.getElem_mem h, hk⟩
theorem anyq_good {l : List ByteArray} {p : ByteArray → Bool} {k : Nat} (h : ¬ k < l.length) (hA : (l.take k).any p = false) : l.any p = false := by
  rw [List.take_of_length_le (by omega)] at hA; exact hA
def IdxIs (P : Int → Prop) (e : Ending) : Prop := ∃ n : Int, P n ∧ e = .returned (.int .i64 n)
def quickP (h : Int) (x : ByteArray) : Bool := (hashN (L x) : Int) == h

set_option maxRecDepth 100000 in
set_option maxHeartbeats 4000000 in
theorem quickIdx_any (h : Int) (q : Nat) (A : Option Addr) (c : Nat) (l : List ByteArray) (w : World) (hc : w.cell? ⟨q, 0, none⟩ = some (.int .i64 h)) (hl : Strs w A l) (hn : l.length ≤ 9223372036854775806) (hs : ∀ x ∈ l, x.size ≤ 9223372036854775807) :
    Calls Tryd.prog 39 #[.slice A l.length c, .func (.func 20) #[] #[.pointer (some ⟨q, 0, none⟩)]] w fun e w' => IdxIs (fun n => decide (0 ≤ n) = l.any (quickP h)) e ∧ Below w.heap.size w w' := by
  have HL := Lib.hid hl
  have HS := Lib.hid hs
  have HC := Lib.hid hc
  clear hl hs hc
  have HB0 := Lib.hid (Below.refl w.heap.size w)
  go_enter Tryd.func39, Tryd.ntmps39
  go_wp2
  go_loopw [8] (fun i wr => ∃ k : Nat, k ≤ l.length ∧ i = .int .i64 k ∧ Hid ((l.take k).any (quickP h) = false) ∧ Hid (Below w.heap.size w wr)) (fun i _ => l.length - (intOf i).toNat)
  case atStart => exact ⟨0, Nat.zero_le _, rfl, rfl, HB0⟩
  case round =>
    obtain ⟨k, hk, rfl, HA, HB⟩ := hrel
    by_cases hlt : k < l.length
    · obtain ⟨b, o, rfl, hcl⟩ := (HL.out.below HB.out) (by intro e; subst e; simp at hlt)
      have hck := hcl k hlt
      have hxz := HS.out l[k] (List.getElem_mem hlt)
      obtain ⟨x, hx⟩ : ∃ x, l[k] = x := ⟨_, rfl⟩
      rw [hx] at hck hxz
      have HX := Lib.hid hx
      have HQ := Lib.hid (quickC_any x h q wr ((HB.out.cell (p := ⟨q, 0, none⟩) (cell_lt HC.out)).trans HC.out) hxz)
      clear hcl hx
      rcases Bool.eq_false_or_eq_true ((hashN (L x) : Int) == h) with hK | hK
      · have HK := Lib.hid (anyq_bad (p := quickP h) hlt (by rw [HX.out]; exact hK))
        rw [hK] at HQ
        go_wp2_with (go_at_call 20; refine HQ.out.mono ?_; rintro e w' ⟨rfl, hb⟩)
        go_ret
        exact ⟨⟨k, by rw [HK.out]; simp, rfl⟩, bstep HB.out hb⟩
      · have HK := Lib.hid (anyq_take (p := quickP h) hlt HA.out (by rw [HX.out]; exact hK))
        rw [hK] at HQ
        go_wp2_with (go_at_call 20; refine HQ.out.mono ?_; rintro e w' ⟨rfl, hb⟩; have HB1 := Lib.hid (bstep HB.out hb))
        go_roundw
        case rel => exact ⟨k + 1, by omega, by go_num, HK, HB1⟩
        case measure => simp [intOf]; omega
    · have HK := Lib.hid (anyq_good (p := quickP h) hlt HA.out)
      go_wp2
      go_ret
      exact ⟨⟨-1, by rw [HK.out]; simp, rfl⟩, HB.out⟩

set_option maxRecDepth 100000 in
set_option maxHeartbeats 4000000 in
theorem quickHas_any (h : Int) (q : Nat) (A : Option Addr) (c : Nat) (l : List ByteArray) (w : World) (hc : w.cell? ⟨q, 0, none⟩ = some (.int .i64 h)) (hl : Strs w A l) (hn : l.length ≤ 9223372036854775806) (hs : ∀ x ∈ l, x.size ≤ 9223372036854775807) :
    Calls Tryd.prog 30 #[.slice A l.length c, .func (.func 20) #[] #[.pointer (some ⟨q, 0, none⟩)]] w fun e w' => e = .returned (.bool (l.any (quickP h))) ∧ Below w.heap.size w w' := by
  have hC := quickIdx_any h q A c l w hc hl hn hs
  clear hl hs hc
  go_enter Tryd.func30, Tryd.ntmps30
  go_wp2_with (go_at_call 39; refine hC.mono ?_; rintro e w' ⟨⟨n, hx, rfl⟩, hb⟩; have HX := Lib.hid hx; clear hx)
  go_ret
  exact ⟨ret_bool HX.out, hb⟩

set_option maxRecDepth 100000 in
set_option maxHeartbeats 4000000 in
theorem quick_any (g : Nat) (l : List ByteArray) (h : Int) (w : World) (hF : Filt w g l) (hn : l.length ≤ 9223372036854775806) (hs : ∀ x ∈ l, x.size ≤ 9223372036854775807) :
    Calls Tryd.prog 8 #[.pointer (some ⟨g, 0, none⟩), .int .i64 h] w fun e w' => e = .returned (.bool (anyT (quickP h) l)) ∧ Below w.heap.size w w' := by
  have hA : ∀ (W : World) (q : Nat), Filt W g l → W.cell? ⟨q, 0, none⟩ = some (.int .i64 h) → Calls Tryd.prog 18 #[.pointer (some ⟨g, 0, none⟩), .func (.func 20) #[] #[.pointer (some ⟨q, 0, none⟩)]] W fun e w' => e = .returned (.bool (anyT (quickP h) l)) ∧ Below W.heap.size W w' := by
    intro W q hF hc
    obtain ⟨A, c, hB, hS, hcc⟩ := hF
    have c0 := hB.cell
    by_cases hl : l = []
    · subst hl
      have d0 : (((([] : List ByteArray).length : Nat) : Int) == 0) = true := rfl
      clear hs hc
      go_enter Tryd.func18, Tryd.ntmps18
      go_wp2
      go_ret
      exact ⟨rfl, Below.refl _ _⟩
    · have hlen : 0 < l.length := List.length_pos_iff.2 hl
      have d0 : ((l.length : Int) == 0) = false := by rw [beq_eq_false_iff_ne]; omega
      have HP := Lib.hid (show l.any (quickP h) = anyT (quickP h) l by unfold anyT; cases l with | nil => exact absurd rfl hl | cons _ _ => rfl)
      have hC := Lib.hid (quickHas_any h q A c l W hc hS hn hs)
      clear hS hs hc hl
      go_enter Tryd.func18, Tryd.ntmps18
      go_wp2_with (go_at_call 30; refine hC.out.mono ?_; rintro e w1 ⟨rfl, hb⟩)
      go_ret
      exact ⟨ret_bool HP.out, hb⟩
  have HA := Lib.hid (hA (w.alloc (.cells #[.int .i64 h] 3)) w.heap.size (hF.below (balloc (Below.refl _ _))) (by simp))
  clear hA hs
  go_enter Tryd.func8, Tryd.ntmps8
  go_wp2_with (go_at_call 18; refine HA.out.mono ?_; rintro e w1 ⟨rfl, hb⟩)
  go_ret
  exact ⟨rfl, bstep (balloc (Below.refl _ _)) hb⟩

end Go.Proofs.YtnlpohcnlmdocaaDoor
