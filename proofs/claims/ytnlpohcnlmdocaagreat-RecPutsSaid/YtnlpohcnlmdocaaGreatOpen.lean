/- Unsealed texts: (*crc.Table).Open. -/
import Derived.Test.YtnlpohcnlmdocaaGreatSeal
import Derived.Test.YtnlpohcnlmdocaaGreatRel
import Derived.WalkLawsBesides
import Derived.Lib.ConvBytes
import Derived.Test.YtnlpohcnlmdocaaGreatAll
namespace Go.Proofs.YtnlpohcnlmdocaaGreat
open Go.Shelf Go.RowKit
set_option linter.unusedVariables false
set_option linter.unusedSimpArgs false

/-- Cells that stand in block g. -/
def CellsAt (w : World) (g : Nat) (l : List Value) : Prop := ∀ j (h : j < l.length), w.cell? ⟨g, j, none⟩ = some l[j]
theorem CellsAt.below {w w' : World} {g : Nat} {l : List Value} (h : CellsAt w g l) (hb : Below w.heap.size w w') : CellsAt w' g l := fun j hj =>
  (hb.cell (p := ⟨g, j, none⟩) (cell_lt (h j hj))).trans (h j hj)
theorem CellsAt.new (w : World) (t : TypeId) (l : List Value) : CellsAt (w.alloc (.cells l.toArray t)) w.heap.size l := fun j hj => by
  rw [(Blk.new w t l.toArray).cell]; simp [hj]
def LeB (w1 w2 : World) : Prop := Below w1.heap.size w1 w2
theorem bytes_le (w : World) (e : TypeId) (s : ByteArray) : LeB w (Lib.bytesWorld w e s) := ⟨rfl, rfl, rfl, by rw [Lib.bytesWorld_size]; omega, fun k hk => Lib.bytesWorld_at_old w e s k hk⟩
theorem bytes_cells {w : World} {e : TypeId} {s : ByteArray} {q0 q1 q2 q3 : Nat} (hs : 4 ≤ s.size) (hq : ((L s).take 4).map UInt8.toNat = [q0, q1, q2, q3]) : CellsAt (Lib.bytesWorld w e (s.extract 0 4)) w.heap.size [.int .u8 q0, .int .u8 q1, .int .u8 q2, .int .u8 q3] := by
  intro j hj
  have hz : (s.extract 0 4).size = 4 := by rw [ByteArray.size_extract]; omega
  rw [Lib.bytesWorld_cell w e _ j (by rw [hz]; simpa using hj)]
  have h1 := L_upto s 4
  unfold L at h1
  rw [h1]
  have h2 : (((L s).take 4).map UInt8.toNat)[j]? = [q0, q1, q2, q3][j]? := by rw [hq]
  have e : ([.int .u8 q0, .int .u8 q1, .int .u8 q2, .int .u8 q3] : List Value) = [q0, q1, q2, q3].map fun q : Nat => Value.int .u8 q := rfl
  simp only [e, List.getElem_map]
  rw [List.getElem?_map] at h2
  simp only [List.getD_eq_getElem?_getD]
  unfold L at h2
  have hj4 : j < [q0, q1, q2, q3].length := hj
  rw [List.getElem?_eq_getElem hj4] at h2
  cases hv : (List.take 4 s.data.toList)[j]? with
  | none => rw [hv] at h2; cases h2
  | some u => rw [hv] at h2; simp only [Option.map_some, Option.some.injEq] at h2; rw [← h2]; rfl
def openR (b : Nat) (s r : ByteArray) (x q0 q1 q2 q3 : Nat) (bad : Bool) : Nat → Value → World → Prop
  | 0, v, _ => v = .pointer (some ⟨b, 0, none⟩)
  | 1, v, _ => v = .bool false
  | 2, v, _ => v = .bool false
  | 3, v, _ => v = .string s
  | 4, v, _ => v = .int .i64 s.size
  | 5, v, _ => v = .bool false
  | 6, v, _ => v = .bool false
  | 7, v, _ => v = .bool false
  | 8, v, _ => v = .string s
  | 9, v, _ => v = .string (s.extract 0 4)
  | 10, v, w => ∃ g c, v = .slice (some ⟨g, 0, none⟩) 4 c ∧ CellsAt w g [.int .u8 q0, .int .u8 q1, .int .u8 q2, .int .u8 q3]
  | 11, v, w => ∃ g, v = .pointer (some ⟨g, 0, none⟩) ∧ CellsAt w g [.int .u8 q0, .int .u8 q1, .int .u8 q2, .int .u8 q3]
  | 12, v, _ => v = .agg #[.int .u8 q0, .int .u8 q1, .int .u8 q2, .int .u8 q3]
  | 13, v, _ => v = .pointer (some ⟨b, 0, none⟩)
  | 14, v, _ => v = .string s
  | 15, v, _ => v = .string r
  | 16, v, w => ∃ g, v = .slice (some ⟨g, 0, none⟩) 1 1 ∧ CellsAt w g [.string r]
  | 17, v, _ => v = .int .i64 x
  | 18, v, _ => v = .agg (wordCells x)
  | 19, v, _ => v = .bool bad
  | 20, v, _ => v = .bool bad
  | _, _, _ => True

theorem openR_mono (b : Nat) (s r : ByteArray) (x q0 q1 q2 q3 : Nat) (bad : Bool) : ∀ i v w1 w2, LeB w1 w2 → openR b s r x q0 q1 q2 q3 bad i v w1 → openR b s r x q0 q1 q2 q3 bad i v w2 := by
  intro i v w1 w2 hle h
  match i with
  | 10 => obtain ⟨g, c, e, hc⟩ := h; exact ⟨g, c, e, hc.below hle⟩
  | 11 => obtain ⟨g, e, hc⟩ := h; exact ⟨g, e, hc.below hle⟩
  | 16 => obtain ⟨g, e, hc⟩ := h; exact ⟨g, e, hc.below hle⟩
  | 0 | 1 | 2 | 3 | 4 | 5 | 6 | 7 | 8 | 9 | 12 | 13 | 14 | 15 | 17 | 18 | 19 | 20 => exact h
  | _ + 21 => trivial

theorem eq4 (a b c d a' b' c' d' : Int) (w : World) : (Op.equalIn 10000 74 (.agg #[.int .u8 a, .int .u8 b, .int .u8 c, .int .u8 d]) (.agg #[.int .u8 a', .int .u8 b', .int .u8 c', .int .u8 d'])).run Tryz.prog w = .ok (a == a' && (b == b' && (c == c' && d == d'))) w := by
  have u3 := Tryz.underlying5
  have a3 := Tryz.isAgg5
  have z3 := Tryz.sizeOf5
  rw [show (10000 : Nat) = 9999 + 1 from rfl, Op.equalIn]
  simp only [Sem.run_bind, run_underlying Tryz.underlying74, Result.andThen_ok]
  simp only [Std.Legacy.Range.forIn_eq_forIn_range', Std.Legacy.Range.size, Nat.sub_zero, Nat.add_sub_cancel, Nat.div_one, List.range'_succ, List.range'_zero, List.forIn_cons, List.forIn_nil]
  go_simp
  by_cases h1 : a = a' <;> by_cases h2 : b = b' <;> by_cases h3 : c = c' <;> by_cases h4 : d = d' <;> simp [h1, h2, h3, h4]

set_option maxRecDepth 100000 in
set_option maxHeartbeats 4000000 in
theorem open_long (b : Nat) (s r : ByteArray) (x q0 q1 q2 q3 : Nat) (bad : Bool) (w : World) (hr : s.extract 4 s.size = r) (hx : sumC (L r) = x) (hq : ((L s).take 4).map UInt8.toNat = [q0, q1, q2, q3]) (hbad : (!((q0 : Int) == (x : Int) / 16777216 && ((q1 : Int) == (x : Int) / 65536 % 256 && ((q2 : Int) == (x : Int) / 256 % 256 && (q3 : Int) == (x : Int) % 256)))) = bad) (hs : 4 ≤ s.size) (hs2 : s.size ≤ 9223372036854775800) (ht : TabAt w b) :
    Calls Tryz.prog 33 #[.pointer (some ⟨b, 0, none⟩), .string s] w fun e w' => e = .returned (.tuple #[.string (if bad then ⟨#[]⟩ else r), .bool (!bad)]) ∧ Below w.heap.size w w' := by
  have hd : decide ((s.size : Int) < 4) = false := decide_eq_false (by omega)
  have h4 : (4 : Int) ≤ (s.size : Int) := by omega
  have hxl : x < 4294967296 := hx ▸ sumC_lt (L r)
  have hrz : r.size ≤ 9223372036854775800 := by rw [← hr, ByteArray.size_extract]; omega
  have HT := Lib.hid ht
  clear ht
  go_enter Tryz.func33, Tryz.ntmps33
  go_wp2
  refine wp_region_rel (by kernel_rfl) LeB (openR b s r x q0 q1 q2 q3 bad) (by kernel_rfl) ?_ ?_ ?_ ?_ ?_
  · exact bdrew (Below.refl _ _)
  · exact fun _ _ _ h1 h2 => bstep h1 h2
  · exact openR_mono b s r x q0 q1 q2 q3 bad
  · refine ⟨?_, ?_, ?_, ?_, ?_, ?_, ?_, ?_, ?_, ?_, ?_, ?_, ?_, ?_, ?_, ?_, ?_, ?_, ?_, ?_, ?_, trivial⟩
    · intro a w' hle hk hR K hK
      have k0 : a.tmps[0]?.getD undef = .pointer (some ⟨b, 0, none⟩) := hk 0 (by kernel_rfl)
      refine ite_yes rfl ?_
      go_simp
      exact hK _ _ (Below.refl _ _) rfl
    · intro a w' hle hk hR K hK
      have k6 : a.tmps[6]?.getD undef = .pointer (some ⟨b, 0, none⟩) := hR 0 (by kernel_rfl)
      refine ite_yes rfl ?_
      go_simp
      exact hK _ _ (Below.refl _ _) rfl
    · intro a w' hle hk hR K hK
      have k7 : a.tmps[7]?.getD undef = .bool false := hR 1 (by kernel_rfl)
      refine ite_yes rfl ?_
      go_simp
      exact hK _ _ (Below.refl _ _) rfl
    · intro a w' hle hk hR K hK
      have k1 : a.tmps[1]?.getD undef = .string s := hk 1 (by kernel_rfl)
      refine ite_yes (wanted_of rfl (by kernel_rfl) (hR 2 (by kernel_rfl))) ?_
      go_simp
      exact hK _ _ (Below.refl _ _) rfl
    · intro a w' hle hk hR K hK
      have k9 : a.tmps[9]?.getD undef = .string s := hR 3 (by kernel_rfl)
      refine ite_yes (wanted_of rfl (by kernel_rfl) (hR 2 (by kernel_rfl))) ?_
      go_simp
      exact hK _ _ (Below.refl _ _) rfl
    · intro a w' hle hk hR K hK
      have k10 : a.tmps[10]?.getD undef = .int .i64 s.size := hR 4 (by kernel_rfl)
      refine ite_yes (wanted_of rfl (by kernel_rfl) (hR 2 (by kernel_rfl))) ?_
      go_simp
      exact hK _ _ (Below.refl _ _) rfl
    · intro a w' hle hk hR K hK
      have k8 : a.tmps[8]?.getD undef = .bool false := hR 2 (by kernel_rfl)
      have k11 : a.tmps[11]?.getD undef = .bool false := hR 5 (by kernel_rfl)
      refine ite_yes rfl ?_
      go_simp
      exact hK _ _ (Below.refl _ _) rfl
    · intro a w' hle hk hR K hK
      have k12 : a.tmps[12]?.getD undef = .bool false := hR 6 (by kernel_rfl)
      refine ite_yes rfl ?_
      go_simp
      exact hK _ _ (Below.refl _ _) rfl
    · intro a w' hle hk hR K hK
      have k1 : a.tmps[1]?.getD undef = .string s := hk 1 (by kernel_rfl)
      refine ite_yes (wanted_of rfl (by kernel_rfl) (hR 7 (by kernel_rfl))) ?_
      go_simp
      exact hK _ _ (Below.refl _ _) rfl
    · intro a w' hle hk hR K hK
      have k14 : a.tmps[14]?.getD undef = .string s := hR 8 (by kernel_rfl)
      refine ite_yes (wanted_of rfl (by kernel_rfl) (hR 7 (by kernel_rfl))) ?_
      go_simp
      exact hK _ _ (Below.refl _ _) rfl
    · intro a w' hle hk hR K hK
      have k15 : a.tmps[15]?.getD undef = .string (s.extract 0 4) := hR 9 (by kernel_rfl)
      refine ite_yes (wanted_of rfl (by kernel_rfl) (hR 7 (by kernel_rfl))) ?_
      have hz : (s.extract 0 4).size = 4 := by rw [ByteArray.size_extract]; omega
      have hcv := Lib.run_convert_string_bytes (P := Tryz.prog) w' 9 72 5 (s.extract 0 4) Tryz.underlying9 Tryz.underlying72 Tryz.underlying5
      rw [hz] at hcv
      go_simp
      exact hK _ _ (bytes_le _ _ _) ⟨_, _, rfl, bytes_cells hs hq⟩
    · intro a w' hle hk hR K hK
      obtain ⟨g16, c16, e16, h16⟩ := hR 10 (by kernel_rfl)
      replace e16 : a.tmps[16]?.getD undef = .slice (some ⟨g16, 0, none⟩) 4 c16 := e16
      refine ite_yes (wanted_of rfl (by kernel_rfl) (hR 7 (by kernel_rfl))) ?_
      have har : (Instr.arrayAt 74 (.slice (some ⟨g16, 0, none⟩) 4 c16)).run Tryz.prog w' = .ok (.pointer (some ⟨g16, 0, none⟩)) w' := by simp [Instr.arrayAt, run_underlying Tryz.underlying74]
      go_simp
      exact hK _ _ (Below.refl _ _) ⟨_, rfl, h16⟩
    · intro a w' hle hk hR K hK
      obtain ⟨g17, e17, h17⟩ := hR 11 (by kernel_rfl)
      replace e17 : a.tmps[17]?.getD undef = .pointer (some ⟨g17, 0, none⟩) := e17
      refine ite_yes (wanted_of rfl (by kernel_rfl) (hR 7 (by kernel_rfl))) ?_
      have c0 := h17 0 (by simp)
      have c1 := h17 1 (by simp)
      have c2 := h17 2 (by simp)
      have c3 := h17 3 (by simp)
      simp only [List.getElem_cons_zero, List.getElem_cons_succ] at c0 c1 c2 c3
      go_simp
      exact hK _ _ (Below.refl _ _) rfl
    · intro a w' hle hk hR K hK
      have k0 : a.tmps[0]?.getD undef = .pointer (some ⟨b, 0, none⟩) := hk 0 (by kernel_rfl)
      refine ite_yes (wanted_of rfl (by kernel_rfl) (hR 7 (by kernel_rfl))) ?_
      go_simp
      exact hK _ _ (Below.refl _ _) rfl
    · intro a w' hle hk hR K hK
      have k1 : a.tmps[1]?.getD undef = .string s := hk 1 (by kernel_rfl)
      refine ite_yes (wanted_of rfl (by kernel_rfl) (hR 7 (by kernel_rfl))) ?_
      go_simp
      exact hK _ _ (Below.refl _ _) rfl
    · intro a w' hle hk hR K hK
      have k20 : a.tmps[20]?.getD undef = .string s := hR 14 (by kernel_rfl)
      refine ite_yes (wanted_of rfl (by kernel_rfl) (hR 7 (by kernel_rfl))) ?_
      go_simp
      exact hK _ _ (Below.refl _ _) rfl
    · intro a w' hle hk hR K hK
      have k21 : a.tmps[21]?.getD undef = .string r := hR 15 (by kernel_rfl)
      refine ite_yes (wanted_of rfl (by kernel_rfl) (hR 7 (by kernel_rfl))) ?_
      go_simp
      exact hK _ _ (balloc (Below.refl _ _)) ⟨_, rfl, CellsAt.new _ _ _⟩
    · intro a w' hle hk hR K hK
      have k19 : a.tmps[19]?.getD undef = .pointer (some ⟨b, 0, none⟩) := hR 13 (by kernel_rfl)
      obtain ⟨g22, e22, h22⟩ := hR 16 (by kernel_rfl)
      replace e22 : a.tmps[22]?.getD undef = .slice (some ⟨g22, 0, none⟩) 1 1 := e22
      refine ite_yes (wanted_of rfl (by kernel_rfl) (hR 7 (by kernel_rfl))) ?_
      go_simp
      refine (sum_any b g22 r w' hrz (HT.out.below hle) (h22 0 (by simp))).mono ?_
      rintro e w'' ⟨rfl, hd⟩
      exact hK _ _ hd.below (by show Value.int _ _ = _; rw [hx])
    · intro a w' hle hk hR K hK
      have k23 : a.tmps[23]?.getD undef = .int .i64 x := hR 17 (by kernel_rfl)
      refine ite_yes (wanted_of rfl (by kernel_rfl) (hR 7 (by kernel_rfl))) ?_
      go_simp
      refine (word_any x w' hxl).mono ?_
      rintro e w'' ⟨rfl, rfl⟩
      exact hK _ _ (balloc (Below.refl _ _)) rfl
    · intro a w' hle hk hR K hK
      have k18 : a.tmps[18]?.getD undef = .agg #[.int .u8 q0, .int .u8 q1, .int .u8 q2, .int .u8 q3] := hR 12 (by kernel_rfl)
      have k24 : a.tmps[24]?.getD undef = .agg (wordCells x) := hR 18 (by kernel_rfl)
      refine ite_yes (wanted_of rfl (by kernel_rfl) (hR 7 (by kernel_rfl))) ?_
      unfold wordCells at k24
      have heq := eq4 q0 q1 q2 q3 (x / 16777216) (x / 65536 % 256) (x / 256 % 256) (x % 256) w'
      go_simp
      exact hK _ _ (Below.refl _ _) rfl
    · intro a w' hle hk hR K hK
      have k13 : a.tmps[13]?.getD undef = .bool false := hR 7 (by kernel_rfl)
      have k25 : a.tmps[25]?.getD undef = .bool bad := hR 19 (by kernel_rfl)
      refine ite_yes rfl ?_
      go_simp
      exact hK _ _ (Below.refl _ _) rfl
  · intro a' w' hle hdf hsz hk hR
    obtain ⟨⟨T⟩, D⟩ := a'
    match T, hsz with
    | [x0, x1, x2, x3, x4, x5, x6, x7, x8, x9, x10, x11, x12, x13, x14, x15, x16, x17, x18, x19, x20, x21, x22, x23, x24, x25, x26, x27, x28], _ =>
      obtain rfl : x0 = .pointer (some ⟨b, 0, none⟩) := hk 0 (by kernel_rfl)
      obtain rfl : x1 = .string s := hk 1 (by kernel_rfl)
      obtain rfl : x26 = .bool bad := hR 20 (by decide)
      obtain rfl : D = [] := hdf
      clear hR hk
      cases bad
      · go_wp2
        go_ret2
        exact ⟨rfl, hle⟩
      · go_wp2
        go_ret2
        exact ⟨rfl, hle⟩
/-- What was sealed. -/
def unsealL (l : List UInt8) : Option (List UInt8) := if 4 ≤ l.length ∧ l.take 4 = numL 4 (sumC (l.drop 4)) then some (l.drop 4) else none
theorem unseal_seal (l : List UInt8) : unsealL (sealL l) = some l := by
  unfold unsealL sealL
  have h4 : (numL 4 (sumC l)).length = 4 := numL_len _ _
  have hd : (numL 4 (sumC l) ++ l).drop 4 = l := by have := List.drop_left (l₁ := numL 4 (sumC l)) (l₂ := l); rwa [h4] at this
  have ht : (numL 4 (sumC l) ++ l).take 4 = numL 4 (sumC l) := by have := List.take_left (l₁ := numL 4 (sumC l)) (l₂ := l); rwa [h4] at this
  rw [hd, ht, if_pos ⟨by simp [h4], rfl⟩]
theorem unseal_some {l m : List UInt8} (h : unsealL l = some m) : l = sealL m := by
  unfold unsealL at h
  split at h
  · rename_i h1; cases h
    unfold sealL; rw [← h1.2, List.take_append_drop]
  · cases h
theorem word_iff {q : List UInt8} {x q0 q1 q2 q3 : Nat} (hx : x < 4294967296) (hq : q.map UInt8.toNat = [q0, q1, q2, q3]) :
    (((q0 : Int) == (x : Int) / 16777216 && ((q1 : Int) == (x : Int) / 65536 % 256 && ((q2 : Int) == (x : Int) / 256 % 256 && (q3 : Int) == (x : Int) % 256)))) = decide (q = numL 4 x) := by
  match q, hq with
  | [a, b, c, d], hq =>
    simp only [List.map_cons, List.map_nil, List.cons.injEq, and_true] at hq
    obtain ⟨rfl, rfl, rfl, rfl⟩ := hq
    have e : numL 4 x = [UInt8.ofNat (x / 16777216), UInt8.ofNat (x / 65536 % 256), UInt8.ofNat (x / 256 % 256), UInt8.ofNat (x % 256)] := by
      simp only [numL, List.nil_append, List.cons_append]
      rw [show x / 256 / 256 / 256 % 256 = x / 16777216 by omega, show x / 256 / 256 % 256 = x / 65536 % 256 by omega]
    have hb : ∀ (u : UInt8) (n : Nat), n < 256 → (u = UInt8.ofNat n ↔ (u.toNat : Int) = (n : Int)) := fun u n hn => by
      rw [← UInt8.toNat_inj]; simp; omega
    rw [e, Bool.eq_iff_iff]
    simp only [Bool.and_eq_true, beq_iff_eq, decide_eq_true_eq, List.cons.injEq, and_true, hb _ _ (show x / 16777216 < 256 by omega), hb _ _ (show x / 65536 % 256 < 256 by omega), hb _ _ (show x / 256 % 256 < 256 by omega), hb _ _ (show x % 256 < 256 by omega)]
    rw [show ((x / 16777216 : Nat) : Int) = (x : Int) / 16777216 by omega, show ((x / 65536 % 256 : Nat) : Int) = (x : Int) / 65536 % 256 by omega, show ((x / 256 % 256 : Nat) : Int) = (x : Int) / 256 % 256 by omega, show ((x % 256 : Nat) : Int) = (x : Int) % 256 by omega]

set_option maxRecDepth 100000 in
set_option maxHeartbeats 4000000 in
theorem open_short (b : Nat) (s : ByteArray) (w : World) (hs : s.size < 4) :
    Calls Tryz.prog 33 #[.pointer (some ⟨b, 0, none⟩), .string s] w fun e w' => e = .returned (.tuple #[.string ⟨#[]⟩, .bool false]) ∧ Drn w w' := by
  have hd : decide ((s.size : Int) < 4) = true := decide_eq_true (by omega)
  go_enter Tryz.func33, Tryz.ntmps33
  go_wp2
  go_quiet (fail)
  go_wp2
  go_ret2
  exact ⟨rfl, Drn.of _ _⟩

theorem open_any (b : Nat) (s : ByteArray) (w : World) (hs2 : s.size ≤ 9223372036854775800) (ht : TabAt w b) :
    Calls Tryz.prog 33 #[.pointer (some ⟨b, 0, none⟩), .string s] w fun e w' => e = .returned (.tuple #[.string (B ((unsealL (L s)).getD [])), .bool (unsealL (L s)).isSome]) ∧ Below w.heap.size w w' := by
  by_cases h4 : 4 ≤ s.size
  · obtain ⟨q0, q1, q2, q3, hq⟩ : ∃ q0 q1 q2 q3, ((L s).take 4).map UInt8.toNat = [q0, q1, q2, q3] := by
      have hl : ((L s).take 4).length = 4 := by rw [List.length_take, L_len]; omega
      match (L s).take 4, hl with
      | [a, b, c, d], _ => exact ⟨_, _, _, _, rfl⟩
    have hwi := word_iff (x := sumC (L (s.extract 4 s.size))) (sumC_lt _) hq
    refine (open_long b s _ _ q0 q1 q2 q3 _ w rfl rfl hq rfl h4 hs2 ht).mono ?_
    rintro e w' ⟨rfl, hb⟩
    refine ⟨?_, hb⟩
    have hL := L_from s 4
    have hu : unsealL (L s) = if decide ((L s).take 4 = numL 4 (sumC (L (s.extract 4 s.size)))) = true then some (L (s.extract 4 s.size)) else none := by
      unfold unsealL
      rw [← hL]
      have : 4 ≤ (L s).length := by rw [L_len]; exact h4
      simp only [this, true_and, decide_eq_true_eq]
    rw [hu, hwi]
    generalize decide ((L s).take 4 = numL 4 (sumC (L (s.extract 4 s.size)))) = d
    cases d
    · rfl
    · simp only [if_true, Bool.not_true, Bool.not_false, Option.getD_some, Option.isSome_some, B_L, Bool.false_eq_true, if_false]
  · refine (open_short b s w (by omega)).mono ?_
    rintro e w' ⟨rfl, hd⟩
    refine ⟨?_, hd.below⟩
    unfold unsealL
    rw [if_neg (fun h => h4 (by have := h.1; rwa [L_len] at this))]; rfl

end Go.Proofs.YtnlpohcnlmdocaaGreat
