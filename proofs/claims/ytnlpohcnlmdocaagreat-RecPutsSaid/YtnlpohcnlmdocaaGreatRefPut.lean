/- The document's bytes of a record: reveilleref06.Put. -/
import Derived.Test.YtnlpohcnlmdocaaGreatRefB
import Derived.Test.YtnlpohcnlmdocaaGreatPutL
import Derived.Test.YtnlpohcnlmdocaaGreatRel
namespace Go.Proofs.YtnlpohcnlmdocaaGreat
open Go.Shelf Go.RowKit
set_option linter.unusedVariables false
set_option linter.unusedSimpArgs false

def put4R (mb : Nat) (m : Msg) (f1 f2 f3 : ByteArray) : Nat → Value → World → Prop
  | 0, v, _ => v = .pointer (some ⟨mb, 8, none⟩)
  | 1, v, _ => v = .string m.body
  | 2, v, _ => v = .int .i64 m.body.size
  | 3, v, _ => v = .string (B (numL 2 m.body.size))
  | 4, v, _ => v = .string f1
  | 5, v, _ => v = .pointer (some ⟨mb, 8, none⟩)
  | 6, v, _ => v = .string m.body
  | 7, v, _ => v = .string f2
  | 8, v, _ => v = .string f3
  | 9, v, _ => v = .string f3
  | _, _, _ => True
theorem put4R_mono (mb : Nat) (m : Msg) (f1 f2 f3 : ByteArray) : ∀ i v w1 w2, Below w1.heap.size w1 w2 → put4R mb m f1 f2 f3 i v w1 → put4R mb m f1 f2 f3 i v w2 := by
  intro i v w1 w2 hle h
  match i with
  | 0 | 1 | 2 | 3 | 4 | 5 | 6 | 7 | 8 | 9 => exact h
  | _ + 10 => trivial
def put5R (mb k q r : Nat) (s1 s2 : ByteArray) : Nat → Value → World → Prop
  | 0, v, _ => v = .pointer (some ⟨mb, 0, none⟩)
  | 1, v, _ => v = .int .i64 k
  | 2, v, _ => v = .string (B (numL 1 k))
  | 3, v, _ => v = .pointer (some ⟨mb, 1, none⟩)
  | 4, v, _ => v = .int .i64 q
  | 5, v, _ => v = .string (B (numL 1 q))
  | 6, v, _ => v = .string s1
  | 7, v, _ => v = .pointer (some ⟨mb, 3, none⟩)
  | 8, v, _ => v = .int .i64 r
  | 9, v, _ => v = .string (B (numL 1 r))
  | 10, v, _ => v = .string s2
  | 11, v, _ => v = .string s2
  | _, _, _ => True
theorem put5R_mono (mb k q r : Nat) (s1 s2 : ByteArray) : ∀ i v w1 w2, Below w1.heap.size w1 w2 → put5R mb k q r s1 s2 i v w1 → put5R mb k q r s1 s2 i v w2 := by
  intro i v w1 w2 hle h
  match i with
  | 0 | 1 | 2 | 3 | 4 | 5 | 6 | 7 | 8 | 9 | 10 | 11 => exact h
  | _ + 12 => trivial
def put6R (mb b d rf : Nat) (s2 s3 s4 s5 : ByteArray) : Nat → Value → World → Prop
  | 0, v, _ => v = .string s2
  | 1, v, _ => v = .pointer (some ⟨mb, 5, none⟩)
  | 2, v, _ => v = .int .i64 b
  | 3, v, _ => v = .string (B (numL 6 b))
  | 4, v, _ => v = .string s3
  | 5, v, _ => v = .pointer (some ⟨mb, 2, none⟩)
  | 6, v, _ => v = .int .i64 d
  | 7, v, _ => v = .string (B (numL 6 d))
  | 8, v, _ => v = .string s4
  | 9, v, _ => v = .pointer (some ⟨mb, 4, none⟩)
  | 10, v, _ => v = .int .i64 rf
  | 11, v, _ => v = .string (B (numL 6 rf))
  | 12, v, _ => v = .string s5
  | 13, v, _ => v = .string s5
  | _, _, _ => True
theorem put6R_mono (mb b d rf : Nat) (s2 s3 s4 s5 : ByteArray) : ∀ i v w1 w2, Below w1.heap.size w1 w2 → put6R mb b d rf s2 s3 s4 s5 i v w1 → put6R mb b d rf s2 s3 s4 s5 i v w2 := by
  intro i v w1 w2 hle h
  match i with
  | 0 | 1 | 2 | 3 | 4 | 5 | 6 | 7 | 8 | 9 | 10 | 11 | 12 | 13 => exact h
  | _ + 14 => trivial
def put7R (mb : Nat) (m : Msg) (A : Option Addr) (c : Nat) (s5 s6 s7 s8 s9 : ByteArray) : Nat → Value → World → Prop
  | 0, v, _ => v = .string s5
  | 1, v, _ => v = .pointer (some ⟨mb, 6, none⟩)
  | 2, v, _ => v = .string m.topic
  | 3, v, _ => v = .string (B (textL (L m.topic)))
  | 4, v, _ => v = .string s6
  | 5, v, _ => v = .pointer (some ⟨mb, 7, none⟩)
  | 6, v, _ => v = .string m.tag
  | 7, v, _ => v = .string (B (textL (L m.tag)))
  | 8, v, _ => v = .string s7
  | 9, v, _ => v = .pointer (some ⟨mb, 8, none⟩)
  | 10, v, _ => v = .string m.body
  | 11, v, _ => v = .string (B (textL (L m.body)))
  | 12, v, _ => v = .string s8
  | 13, v, _ => v = .pointer (some ⟨mb, 9, none⟩)
  | 14, v, _ => v = .slice A m.keys.length c
  | 15, v, _ => v = .string (B (listL (m.keys.map L)))
  | 16, v, _ => v = .string s9
  | 17, v, _ => v = .string s9
  | _, _, _ => True
theorem put7R_mono (mb : Nat) (m : Msg) (A : Option Addr) (c : Nat) (s5 s6 s7 s8 s9 : ByteArray) : ∀ i v w1 w2, Below w1.heap.size w1 w2 → put7R mb m A c s5 s6 s7 s8 s9 i v w1 → put7R mb m A c s5 s6 s7 s8 s9 i v w2 := by
  intro i v w1 w2 hle h
  match i with
  | 0 | 1 | 2 | 3 | 4 | 5 | 6 | 7 | 8 | 9 | 10 | 11 | 12 | 13 | 14 | 15 | 16 | 17 => exact h
  | _ + 18 => trivial

theorem cast_of {n : Int} (h : 0 ≤ n) : n = ((n.toNat : Nat) : Int) := by omega

set_option maxRecDepth 100000 in
set_option maxHeartbeats 8000000 in
theorem rPut_fill (m : Msg) (A : Option Addr) (c : Nat) (w : World) (hr : rightM m = true) (hk : (m.kind == 0) = true) (hz : m.body.size ≤ 1024) (hno : L m.body = noughtsL m.body.size) :
    Calls Tryz.prog 9 #[.agg #[.int .i64 m.kind, .int .i64 m.queue, .int .i64 m.due, .int .i64 m.retry, .int .i64 m.ref, .int .i64 m.born, .string m.topic, .string m.tag, .string m.body, .slice A m.keys.length c]] w fun e w' => e = .returned (.string (B ((putL m).getD []))) ∧ Below w.heap.size w w' := by
  have hk0 : m.kind = 0 := by simpa using hk
  have HB0 := Lib.hid (show Below w.heap.size w (w.alloc (.cells #[.int .i64 m.kind, .int .i64 m.queue, .int .i64 m.due, .int .i64 m.retry, .int .i64 m.ref, .int .i64 m.born, .string m.topic, .string m.tag, .string m.body, .slice A m.keys.length c] 24)) from balloc (Below.refl _ _))
  have bm0 := Lib.hid (Blk.new w 24 #[.int .i64 m.kind, .int .i64 m.queue, .int .i64 m.due, .int .i64 m.retry, .int .i64 m.ref, .int .i64 m.born, .string m.topic, .string m.tag, .string m.body, .slice A m.keys.length c])
  have cm := bm0.out.cell
  by_cases h3 : m.body.size < 3
  · have HP := Lib.hid (show (⟨#[]⟩ : ByteArray) = B ((putL m).getD []) by unfold putL; rw [if_pos hr, if_pos hk0, if_neg (by omega)]; rfl)
    have d3 : decide ((m.body.size : Int) < 3) = true := decide_eq_true (by omega)
    clear hk0
    go_enter Tryz.func9, Tryz.ntmps9
    go_wp2
    go_ret
    exact ⟨ret_str HP.out, HB0.out⟩
  · have d3 : decide ((m.body.size : Int) < 3) = false := decide_eq_false (by omega)
    have hlt : m.body.size ≤ 1024 := hz
    obtain ⟨f1, hf1⟩ : ∃ f1, (⟨#[90]⟩ : ByteArray) ++ B (numL 2 m.body.size) = f1 := ⟨_, rfl⟩
    obtain ⟨f2, hf2⟩ : ∃ f2, m.body.extract 3 m.body.size = f2 := ⟨_, rfl⟩
    obtain ⟨f3, hf3⟩ : ∃ f3, f1 ++ f2 = f3 := ⟨_, rfl⟩
    have HF1 := Lib.hid hf1
    have HF2 := Lib.hid hf2
    have HF3 := Lib.hid hf3
    have e90 : (⟨#[90]⟩ : ByteArray).size = 1 := rfl
    have hf1s : f1.size = 3 := by rw [← hf1, ByteArray.size_append, B_size, numL_len, e90]
    have hf2s : f2.size ≤ 1024 := by rw [← hf2, ByteArray.size_extract]; omega
    have z0 := Lib.hid (show (3 : Int) ≤ (m.body.size : Int) by omega)
    have z1 := Lib.hid (show 1 + (B (numL 2 m.body.size)).size ≤ 9223372036854775807 by rw [B_size, numL_len]; omega)
    have z2 := Lib.hid (show f1.size + f2.size ≤ 9223372036854775807 by omega)
    have HP := Lib.hid (show f3 = B ((putL m).getD []) by
      unfold putL; rw [if_pos hr, if_pos hk0, if_pos (by omega), Option.getD_some]
      apply L_inj
      rw [← hf3, ← hf1, ← hf2, L_app, L_app, L_B, L_B, L_from, hno, fillL]
      simp [noughtsL]; rfl)
    obtain ⟨mb, hmb⟩ : ∃ mb, w.heap.size = mb := ⟨_, rfl⟩
    have bm := bm0
    clear hk0 hf1 hf2 hf3 hf1s e90 h3
    go_enter Tryz.func9, Tryz.ntmps9
    go_wp2_with fail
    rw [hmb] at bm
    clear hmb
    refine wp_region_put (by kernel_rfl) (fun a b => Below a.heap.size a b) (put4R mb m f1 f2 f3) (by kernel_rfl) ?_ ?_ ?_ ?_ ?_
    · exact bdrew (Below.refl _ _)
    · exact fun _ _ _ h1 h2 => bstep h1 h2
    · exact put4R_mono mb m f1 f2 f3
    · refine ⟨?_, ?_, ?_, ?_, ?_, ?_, ?_, ?_, ?_, ?_, trivial⟩
      · intro a w' hle hk hR K hK
        have k1 : a.tmps[1]?.getD undef = .pointer (some ⟨mb, 0, none⟩) := hk 1 (by kernel_rfl)
        refine ite_yes rfl ?_
        go_simp
        exact hK _ _ (Below.refl _ _) rfl
      · intro a w' hle hk hR K hK
        have k11 : a.tmps[11]?.getD undef = .pointer (some ⟨mb, 8, none⟩) := hR 0 (by kernel_rfl)
        refine ite_yes rfl ?_
        have c0 := (bm.out.later hle).cell
        go_simp
        exact hK _ _ (Below.refl _ _) rfl
      · intro a w' hle hk hR K hK
        have k12 : a.tmps[12]?.getD undef = .string m.body := hR 1 (by kernel_rfl)
        refine ite_yes rfl ?_
        go_simp
        exact hK _ _ (Below.refl _ _) rfl
      · intro a w' hle hk hR K hK
        have k13 : a.tmps[13]?.getD undef = .int .i64 m.body.size := hR 2 (by kernel_rfl)
        refine ite_yes rfl ?_
        go_simp
        refine (rNumB_any 2 m.body.size w' (by omega) (by omega)).mono ?_
        rintro e w'' ⟨rfl, hb⟩
        exact hK _ _ hb rfl
      · intro a w' hle hk hR K hK
        have k14 : a.tmps[14]?.getD undef = .string (B (numL 2 m.body.size)) := hR 3 (by kernel_rfl)
        refine ite_yes rfl ?_
        have hcat := Nat.not_lt.2 z1.out
        have hcv := HF1.out
        go_simp
        exact hK _ _ (Below.refl _ _) rfl
      · intro a w' hle hk hR K hK
        have k1 : a.tmps[1]?.getD undef = .pointer (some ⟨mb, 0, none⟩) := hk 1 (by kernel_rfl)
        refine ite_yes rfl ?_
        go_simp
        exact hK _ _ (Below.refl _ _) rfl
      · intro a w' hle hk hR K hK
        have k16 : a.tmps[16]?.getD undef = .pointer (some ⟨mb, 8, none⟩) := hR 5 (by kernel_rfl)
        refine ite_yes rfl ?_
        have c0 := (bm.out.later hle).cell
        go_simp
        exact hK _ _ (Below.refl _ _) rfl
      · intro a w' hle hk hR K hK
        have k17 : a.tmps[17]?.getD undef = .string m.body := hR 6 (by kernel_rfl)
        refine ite_yes rfl ?_
        have h3 := z0.out
        have hcv := HF2.out
        go_simp
        exact hK _ _ (Below.refl _ _) rfl
      · intro a w' hle hk hR K hK
        have k15 : a.tmps[15]?.getD undef = .string f1 := hR 4 (by kernel_rfl)
        have k18 : a.tmps[18]?.getD undef = .string f2 := hR 7 (by kernel_rfl)
        refine ite_yes rfl ?_
        have hcat := Nat.not_lt.2 z2.out
        have hcv := HF3.out
        go_simp
        exact hK _ _ (Below.refl _ _) rfl
      · intro a w' hle hk hR K hK
        have k19 : a.tmps[19]?.getD undef = .string f3 := hR 8 (by kernel_rfl)
        refine ite_yes rfl ?_
        go_simp
        exact hK _ _ (Below.refl _ _) rfl
    · intro f w' hle hR hN
      have f11 : f 11 = .pointer (some ⟨mb, 8, none⟩) := hR 0 11 (by kernel_rfl)
      have f12 : f 12 = .string m.body := hR 1 12 (by kernel_rfl)
      have f13 : f 13 = .int .i64 m.body.size := hR 2 13 (by kernel_rfl)
      have f14 : f 14 = .string (B (numL 2 m.body.size)) := hR 3 14 (by kernel_rfl)
      have f15 : f 15 = .string f1 := hR 4 15 (by kernel_rfl)
      have f16 : f 16 = .pointer (some ⟨mb, 8, none⟩) := hR 5 16 (by kernel_rfl)
      have f17 : f 17 = .string m.body := hR 6 17 (by kernel_rfl)
      have f18 : f 18 = .string f2 := hR 7 18 (by kernel_rfl)
      have f19 : f 19 = .string f3 := hR 8 19 (by kernel_rfl)
      have f2 : f 2 = .string f3 := hR 9 2 (by kernel_rfl)
      simp only [putAll, List.foldl_cons, List.foldl_nil, f11, f12, f13, f14, f15, f16, f17, f18, f19, f2, List.setIfInBounds_toArray, List.set_cons_succ, List.set_cons_zero]
      clear f11 f12 f13 f14 f15 f16 f17 f18 f19 f2
      go_wp2
      go_ret
      exact ⟨ret_str HP.out, bstep HB0.out hle⟩

set_option maxRecDepth 100000 in
set_option maxHeartbeats 16000000 in
theorem rPut_seal (m : Msg) (A : Option Addr) (c : Nat) (w : World) (hl : Strs w A m.keys) (hr : rightM m = true) (hk : (m.kind == 0) = false) :
    Calls Tryz.prog 9 #[.agg #[.int .i64 m.kind, .int .i64 m.queue, .int .i64 m.due, .int .i64 m.retry, .int .i64 m.ref, .int .i64 m.born, .string m.topic, .string m.tag, .string m.body, .slice A m.keys.length c]] w fun e w' => e = .returned (.string (B ((putL m).getD []))) ∧ Below w.heap.size w w' := by
  have hk0 : m.kind ≠ 0 := by simpa using hk
  have HI := right_in hr hk0
  have hlen := insideL_len HI
  have hkey := Lib.hid (fun s (hs : s ∈ m.keys) => (by have := HI.key s hs; omega : s.size ≤ 65535))
  have hnk := HI.keys
  have ht1 := HI.topic
  have ht2 := HI.tag
  have ht3 := HI.body
  obtain ⟨k, hkk⟩ := Int.eq_ofNat_of_zero_le HI.kind.1
  obtain ⟨q, hqq⟩ := Int.eq_ofNat_of_zero_le HI.queue.1
  obtain ⟨r, hrr⟩ := Int.eq_ofNat_of_zero_le HI.retry.1
  obtain ⟨b, hbb⟩ := Int.eq_ofNat_of_zero_le HI.born.1
  obtain ⟨d, hdd⟩ := Int.eq_ofNat_of_zero_le HI.due.1
  obtain ⟨rf, hff⟩ := Int.eq_ofNat_of_zero_le HI.ref.1
  have lk := HI.kind.2
  have lq := HI.queue.2
  have lr := HI.retry.2
  have lb := HI.born.2
  have ld := HI.due.2
  have lf := HI.ref.2
  rw [hkk] at lk
  rw [hqq] at lq
  rw [hrr] at lr
  rw [hbb] at lb
  rw [hdd] at ld
  rw [hff] at lf
  have HL0 := Lib.hid hl
  have hin : insideL m = numL 1 k ++ numL 1 q ++ numL 1 r ++ numL 6 b ++ numL 6 d ++ numL 6 rf ++ textL (L m.topic) ++ textL (L m.tag) ++ textL (L m.body) ++ listL (m.keys.map L) := by
    unfold insideL
    rw [hkk, hqq, hrr, hbb, hdd, hff]
    simp only [numsL, textsL, List.map_cons, List.map_nil, List.flatten_cons, List.flatten_nil, List.append_nil, List.append_assoc, Int.toNat_natCast]
  obtain ⟨s1, hs1⟩ : ∃ x, B (numL 1 k) ++ B (numL 1 q) = x := ⟨_, rfl⟩
  have ls1 : L s1 = numL 1 k ++ numL 1 q := by rw [← hs1, L_app, L_B, L_B]
  have HS1 := Lib.hid hs1
  clear hs1
  obtain ⟨s2, hs2⟩ : ∃ x, s1 ++ B (numL 1 r) = x := ⟨_, rfl⟩
  have ls2 : L s2 = numL 1 k ++ numL 1 q ++ numL 1 r := by rw [← hs2, L_app, L_B, ls1]
  have HS2 := Lib.hid hs2
  clear hs2
  obtain ⟨s3, hs3⟩ : ∃ x, s2 ++ B (numL 6 b) = x := ⟨_, rfl⟩
  have ls3 : L s3 = numL 1 k ++ numL 1 q ++ numL 1 r ++ numL 6 b := by rw [← hs3, L_app, L_B, ls2]
  have HS3 := Lib.hid hs3
  clear hs3
  obtain ⟨s4, hs4⟩ : ∃ x, s3 ++ B (numL 6 d) = x := ⟨_, rfl⟩
  have ls4 : L s4 = numL 1 k ++ numL 1 q ++ numL 1 r ++ numL 6 b ++ numL 6 d := by rw [← hs4, L_app, L_B, ls3]
  have HS4 := Lib.hid hs4
  clear hs4
  obtain ⟨s5, hs5⟩ : ∃ x, s4 ++ B (numL 6 rf) = x := ⟨_, rfl⟩
  have ls5 : L s5 = numL 1 k ++ numL 1 q ++ numL 1 r ++ numL 6 b ++ numL 6 d ++ numL 6 rf := by rw [← hs5, L_app, L_B, ls4]
  have HS5 := Lib.hid hs5
  clear hs5
  obtain ⟨s6, hs6⟩ : ∃ x, s5 ++ B (textL (L m.topic)) = x := ⟨_, rfl⟩
  have ls6 : L s6 = numL 1 k ++ numL 1 q ++ numL 1 r ++ numL 6 b ++ numL 6 d ++ numL 6 rf ++ textL (L m.topic) := by rw [← hs6, L_app, L_B, ls5]
  have HS6 := Lib.hid hs6
  clear hs6
  obtain ⟨s7, hs7⟩ : ∃ x, s6 ++ B (textL (L m.tag)) = x := ⟨_, rfl⟩
  have ls7 : L s7 = numL 1 k ++ numL 1 q ++ numL 1 r ++ numL 6 b ++ numL 6 d ++ numL 6 rf ++ textL (L m.topic) ++ textL (L m.tag) := by rw [← hs7, L_app, L_B, ls6]
  have HS7 := Lib.hid hs7
  clear hs7
  obtain ⟨s8, hs8⟩ : ∃ x, s7 ++ B (textL (L m.body)) = x := ⟨_, rfl⟩
  have ls8 : L s8 = numL 1 k ++ numL 1 q ++ numL 1 r ++ numL 6 b ++ numL 6 d ++ numL 6 rf ++ textL (L m.topic) ++ textL (L m.tag) ++ textL (L m.body) := by rw [← hs8, L_app, L_B, ls7]
  have HS8 := Lib.hid hs8
  clear hs8
  obtain ⟨s9, hs9⟩ : ∃ x, s8 ++ B (listL (m.keys.map L)) = x := ⟨_, rfl⟩
  have ls9 : L s9 = numL 1 k ++ numL 1 q ++ numL 1 r ++ numL 6 b ++ numL 6 d ++ numL 6 rf ++ textL (L m.topic) ++ textL (L m.tag) ++ textL (L m.body) ++ listL (m.keys.map L) := by rw [← hs9, L_app, L_B, ls8]
  have HS9 := Lib.hid hs9
  clear hs9
  have h9 : L s9 = insideL m := by rw [ls9, hin]
  have hl9 := congrArg List.length h9
  rw [ls9] at hl9
  simp only [List.length_append] at hl9
  have z1 := Lib.hid (show (B (numL 1 k)).size + (B (numL 1 q)).size ≤ 9223372036854775807 by rw [← L_len (B (numL 1 k)), B_size, L_B]; (try simp only [List.length_append]); omega)
  have z2 := Lib.hid (show (s1).size + (B (numL 1 r)).size ≤ 9223372036854775807 by rw [← L_len (s1), B_size, ls1]; (try simp only [List.length_append]); omega)
  have z3 := Lib.hid (show (s2).size + (B (numL 6 b)).size ≤ 9223372036854775807 by rw [← L_len (s2), B_size, ls2]; (try simp only [List.length_append]); omega)
  have z4 := Lib.hid (show (s3).size + (B (numL 6 d)).size ≤ 9223372036854775807 by rw [← L_len (s3), B_size, ls3]; (try simp only [List.length_append]); omega)
  have z5 := Lib.hid (show (s4).size + (B (numL 6 rf)).size ≤ 9223372036854775807 by rw [← L_len (s4), B_size, ls4]; (try simp only [List.length_append]); omega)
  have z6 := Lib.hid (show (s5).size + (B (textL (L m.topic))).size ≤ 9223372036854775807 by rw [← L_len (s5), B_size, ls5]; (try simp only [List.length_append]); omega)
  have z7 := Lib.hid (show (s6).size + (B (textL (L m.tag))).size ≤ 9223372036854775807 by rw [← L_len (s6), B_size, ls6]; (try simp only [List.length_append]); omega)
  have z8 := Lib.hid (show (s7).size + (B (textL (L m.body))).size ≤ 9223372036854775807 by rw [← L_len (s7), B_size, ls7]; (try simp only [List.length_append]); omega)
  have z9 := Lib.hid (show (s8).size + (B (listL (m.keys.map L))).size ≤ 9223372036854775807 by rw [← L_len (s8), B_size, ls8]; (try simp only [List.length_append]); omega)
  clear hl9 ls1 ls2 ls3 ls4 ls5 ls6 ls7 ls8 ls9
  have hzs : (B (sealD (L s9))).size = 4 + (L s9).length := by rw [B_size, sealD, List.length_append, numL_len]
  obtain ⟨y, hy⟩ : ∃ y : Nat, y = 3 + (B (sealD (L s9))).size := ⟨_, rfl⟩
  have HP := Lib.hid (show (⟨#[165]⟩ : ByteArray) ++ B (numL 2 y) ++ B (sealD (L s9)) = B ((putL m).getD []) by
    unfold putL; rw [if_pos hr, if_neg hk0, Option.getD_some]
    apply L_inj
    rw [L_app, L_app, L_B, L_B, L_B, h9, hy, hzs, h9, show 3 + (4 + (insideL m).length) = 7 + (insideL m).length by omega]; rfl)
  have HB0 := Lib.hid (show Below w.heap.size w (w.alloc (.cells #[.int .i64 (k : Int), .int .i64 (q : Int), .int .i64 (d : Int), .int .i64 (r : Int), .int .i64 (rf : Int), .int .i64 (b : Int), .string m.topic, .string m.tag, .string m.body, .slice A m.keys.length c] 24)) from balloc (Below.refl _ _))
  have bm0 := Lib.hid (Blk.new w 24 #[.int .i64 (k : Int), .int .i64 (q : Int), .int .i64 (d : Int), .int .i64 (r : Int), .int .i64 (rf : Int), .int .i64 (b : Int), .string m.topic, .string m.tag, .string m.body, .slice A m.keys.length c])
  have cm := bm0.out.cell
  have HL := Lib.hid (HL0.out.below HB0.out)
  have hyc : (3 : Int) + ((B (sealD (L s9))).size : Int) = (y : Int) := by rw [hy]; omega
  have hyl : y < 65536 := by rw [hy, hzs, h9]; omega
  have hs9 : s9.size ≤ 9223372036854775800 := by rw [← L_len, h9]; omega
  have e165 : (⟨#[165]⟩ : ByteArray).size = 1 := rfl
  have q1 : 1 + (B (numL 2 y)).size ≤ 9223372036854775807 := by rw [B_size, numL_len]; omega
  have q2 : ((⟨#[165]⟩ : ByteArray) ++ B (numL 2 y)).size + (B (sealD (L s9))).size ≤ 9223372036854775807 := by
    rw [ByteArray.size_append, B_size (numL 2 y), numL_len, e165, hzs, h9]; omega
  obtain ⟨mb, hmb⟩ : ∃ mb, w.heap.size = mb := ⟨_, rfl⟩
  have bm := bm0
  have HLK := Lib.hid (And.intro lk (And.intro lq (And.intro lr (And.intro lb (And.intro ld lf)))))
  have HMS := Lib.hid (And.intro hnk (And.intro ht1 (And.intro ht2 ht3)))
  have HQ := Lib.hid (And.intro hyc (And.intro q1 q2))
  rw [hkk] at hk
  rw [hkk, hqq, hrr, hbb, hdd, hff]
  clear hkk hqq hrr hbb hdd hff hk0 hin h9 hy hzs e165 hlen HI hl lk lq lr lb ld lf hnk ht1 ht2 ht3 hyc q1 q2
  go_enter Tryz.func9, Tryz.ntmps9
  go_wp2_with fail
  rw [hmb] at bm
  clear hmb cm bm0
  obtain ⟨lk, lq, lr, lb, ld, lf⟩ := HLK.out
  obtain ⟨hnk, ht1, ht2, ht3⟩ := HMS.out
  refine wp_region_put (by kernel_rfl) (fun a b => Below a.heap.size a b) (put5R mb k q r s1 s2) (by kernel_rfl) ?_ ?_ ?_ ?_ ?_
  · exact bdrew (Below.refl _ _)
  · exact fun _ _ _ h1 h2 => bstep h1 h2
  · exact put5R_mono mb k q r s1 s2
  · refine ⟨?_, ?_, ?_, ?_, ?_, ?_, ?_, ?_, ?_, ?_, ?_, ?_, trivial⟩
    · intro a w' hle hk hR K hK
      have k1 : a.tmps[1]?.getD undef = .pointer (some ⟨mb, 0, none⟩) := hk 1 (by kernel_rfl)
      refine ite_yes rfl ?_
      go_simp
      exact hK _ _ (Below.refl _ _) rfl
    · intro a w' hle hk hR K hK
      have k20 : a.tmps[20]?.getD undef = .pointer (some ⟨mb, 0, none⟩) := hR 0 (by kernel_rfl)
      refine ite_yes rfl ?_
      have c0 := (bm.out.later hle).cell
      go_simp
      exact hK _ _ (Below.refl _ _) rfl
    · intro a w' hle hk hR K hK
      have k21 : a.tmps[21]?.getD undef = .int .i64 k := hR 1 (by kernel_rfl)
      refine ite_yes rfl ?_
      go_simp
      refine (rNumB_any 1 k w' (by omega) (by omega)).mono ?_
      rintro e w'' ⟨rfl, hb⟩
      exact hK _ _ hb rfl
    · intro a w' hle hk hR K hK
      have k1 : a.tmps[1]?.getD undef = .pointer (some ⟨mb, 0, none⟩) := hk 1 (by kernel_rfl)
      refine ite_yes rfl ?_
      go_simp
      exact hK _ _ (Below.refl _ _) rfl
    · intro a w' hle hk hR K hK
      have k23 : a.tmps[23]?.getD undef = .pointer (some ⟨mb, 1, none⟩) := hR 3 (by kernel_rfl)
      refine ite_yes rfl ?_
      have c0 := (bm.out.later hle).cell
      go_simp
      exact hK _ _ (Below.refl _ _) rfl
    · intro a w' hle hk hR K hK
      have k24 : a.tmps[24]?.getD undef = .int .i64 q := hR 4 (by kernel_rfl)
      refine ite_yes rfl ?_
      go_simp
      refine (rNumB_any 1 q w' (by omega) (by omega)).mono ?_
      rintro e w'' ⟨rfl, hb⟩
      exact hK _ _ hb rfl
    · intro a w' hle hk hR K hK
      have k22 : a.tmps[22]?.getD undef = .string (B (numL 1 k)) := hR 2 (by kernel_rfl)
      have k25 : a.tmps[25]?.getD undef = .string (B (numL 1 q)) := hR 5 (by kernel_rfl)
      refine ite_yes rfl ?_
      have hcat := Nat.not_lt.2 z1.out
      have hcv := HS1.out
      go_simp
      exact hK _ _ (Below.refl _ _) rfl
    · intro a w' hle hk hR K hK
      have k1 : a.tmps[1]?.getD undef = .pointer (some ⟨mb, 0, none⟩) := hk 1 (by kernel_rfl)
      refine ite_yes rfl ?_
      go_simp
      exact hK _ _ (Below.refl _ _) rfl
    · intro a w' hle hk hR K hK
      have k27 : a.tmps[27]?.getD undef = .pointer (some ⟨mb, 3, none⟩) := hR 7 (by kernel_rfl)
      refine ite_yes rfl ?_
      have c0 := (bm.out.later hle).cell
      go_simp
      exact hK _ _ (Below.refl _ _) rfl
    · intro a w' hle hk hR K hK
      have k28 : a.tmps[28]?.getD undef = .int .i64 r := hR 8 (by kernel_rfl)
      refine ite_yes rfl ?_
      go_simp
      refine (rNumB_any 1 r w' (by omega) (by omega)).mono ?_
      rintro e w'' ⟨rfl, hb⟩
      exact hK _ _ hb rfl
    · intro a w' hle hk hR K hK
      have k26 : a.tmps[26]?.getD undef = .string s1 := hR 6 (by kernel_rfl)
      have k29 : a.tmps[29]?.getD undef = .string (B (numL 1 r)) := hR 9 (by kernel_rfl)
      refine ite_yes rfl ?_
      have hcat := Nat.not_lt.2 z2.out
      have hcv := HS2.out
      go_simp
      exact hK _ _ (Below.refl _ _) rfl
    · intro a w' hle hk hR K hK
      have k30 : a.tmps[30]?.getD undef = .string s2 := hR 10 (by kernel_rfl)
      refine ite_yes rfl ?_
      go_simp
      exact hK _ _ (Below.refl _ _) rfl
  · intro f w' hle hR hN
    have f20 : f 20 = .pointer (some ⟨mb, 0, none⟩) := hR 0 20 (by kernel_rfl)
    have f21 : f 21 = .int .i64 k := hR 1 21 (by kernel_rfl)
    have f22 : f 22 = .string (B (numL 1 k)) := hR 2 22 (by kernel_rfl)
    have f23 : f 23 = .pointer (some ⟨mb, 1, none⟩) := hR 3 23 (by kernel_rfl)
    have f24 : f 24 = .int .i64 q := hR 4 24 (by kernel_rfl)
    have f25 : f 25 = .string (B (numL 1 q)) := hR 5 25 (by kernel_rfl)
    have f26 : f 26 = .string s1 := hR 6 26 (by kernel_rfl)
    have f27 : f 27 = .pointer (some ⟨mb, 3, none⟩) := hR 7 27 (by kernel_rfl)
    have f28 : f 28 = .int .i64 r := hR 8 28 (by kernel_rfl)
    have f29 : f 29 = .string (B (numL 1 r)) := hR 9 29 (by kernel_rfl)
    have f30 : f 30 = .string s2 := hR 10 30 (by kernel_rfl)
    have f3 : f 3 = .string s2 := hR 11 3 (by kernel_rfl)
    simp only [putAll, List.foldl_cons, List.foldl_nil, f20, f21, f22, f23, f24, f25, f26, f27, f28, f29, f30, f3, List.setIfInBounds_toArray, List.set_cons_succ, List.set_cons_zero]
    clear f20 f21 f22 f23 f24 f25 f26 f27 f28 f29 f30 f3
    have HB1 := Lib.hid (bstep HB0.out hle)
    have bm1 := Lib.hid (bm.out.later hle)
    have HL1 := Lib.hid (HL.out.below hle)
    clear bm HL hle hR hN
    have bm := bm1
    have HL := HL1
    clear bm1 HL1
    go_wp2_with fail
    refine wp_region_put (by kernel_rfl) (fun a b => Below a.heap.size a b) (put6R mb b d rf s2 s3 s4 s5) (by kernel_rfl) ?_ ?_ ?_ ?_ ?_
    · exact bdrew (Below.refl _ _)
    · exact fun _ _ _ h1 h2 => bstep h1 h2
    · exact put6R_mono mb b d rf s2 s3 s4 s5
    · refine ⟨?_, ?_, ?_, ?_, ?_, ?_, ?_, ?_, ?_, ?_, ?_, ?_, ?_, ?_, trivial⟩
      · intro a w' hle hk hR K hK
        have k3 : a.tmps[3]?.getD undef = .string s2 := hk 3 (by kernel_rfl)
        refine ite_yes rfl ?_
        go_simp
        exact hK _ _ (Below.refl _ _) rfl
      · intro a w' hle hk hR K hK
        have k1 : a.tmps[1]?.getD undef = .pointer (some ⟨mb, 0, none⟩) := hk 1 (by kernel_rfl)
        refine ite_yes rfl ?_
        go_simp
        exact hK _ _ (Below.refl _ _) rfl
      · intro a w' hle hk hR K hK
        have k32 : a.tmps[32]?.getD undef = .pointer (some ⟨mb, 5, none⟩) := hR 1 (by kernel_rfl)
        refine ite_yes rfl ?_
        have c0 := (bm.out.later hle).cell
        go_simp
        exact hK _ _ (Below.refl _ _) rfl
      · intro a w' hle hk hR K hK
        have k33 : a.tmps[33]?.getD undef = .int .i64 b := hR 2 (by kernel_rfl)
        refine ite_yes rfl ?_
        go_simp
        refine (rNumB_any 6 b w' (by omega) (by omega)).mono ?_
        rintro e w'' ⟨rfl, hb⟩
        exact hK _ _ hb rfl
      · intro a w' hle hk hR K hK
        have k31 : a.tmps[31]?.getD undef = .string s2 := hR 0 (by kernel_rfl)
        have k34 : a.tmps[34]?.getD undef = .string (B (numL 6 b)) := hR 3 (by kernel_rfl)
        refine ite_yes rfl ?_
        have hcat := Nat.not_lt.2 z3.out
        have hcv := HS3.out
        go_simp
        exact hK _ _ (Below.refl _ _) rfl
      · intro a w' hle hk hR K hK
        have k1 : a.tmps[1]?.getD undef = .pointer (some ⟨mb, 0, none⟩) := hk 1 (by kernel_rfl)
        refine ite_yes rfl ?_
        go_simp
        exact hK _ _ (Below.refl _ _) rfl
      · intro a w' hle hk hR K hK
        have k36 : a.tmps[36]?.getD undef = .pointer (some ⟨mb, 2, none⟩) := hR 5 (by kernel_rfl)
        refine ite_yes rfl ?_
        have c0 := (bm.out.later hle).cell
        go_simp
        exact hK _ _ (Below.refl _ _) rfl
      · intro a w' hle hk hR K hK
        have k37 : a.tmps[37]?.getD undef = .int .i64 d := hR 6 (by kernel_rfl)
        refine ite_yes rfl ?_
        go_simp
        refine (rNumB_any 6 d w' (by omega) (by omega)).mono ?_
        rintro e w'' ⟨rfl, hb⟩
        exact hK _ _ hb rfl
      · intro a w' hle hk hR K hK
        have k35 : a.tmps[35]?.getD undef = .string s3 := hR 4 (by kernel_rfl)
        have k38 : a.tmps[38]?.getD undef = .string (B (numL 6 d)) := hR 7 (by kernel_rfl)
        refine ite_yes rfl ?_
        have hcat := Nat.not_lt.2 z4.out
        have hcv := HS4.out
        go_simp
        exact hK _ _ (Below.refl _ _) rfl
      · intro a w' hle hk hR K hK
        have k1 : a.tmps[1]?.getD undef = .pointer (some ⟨mb, 0, none⟩) := hk 1 (by kernel_rfl)
        refine ite_yes rfl ?_
        go_simp
        exact hK _ _ (Below.refl _ _) rfl
      · intro a w' hle hk hR K hK
        have k40 : a.tmps[40]?.getD undef = .pointer (some ⟨mb, 4, none⟩) := hR 9 (by kernel_rfl)
        refine ite_yes rfl ?_
        have c0 := (bm.out.later hle).cell
        go_simp
        exact hK _ _ (Below.refl _ _) rfl
      · intro a w' hle hk hR K hK
        have k41 : a.tmps[41]?.getD undef = .int .i64 rf := hR 10 (by kernel_rfl)
        refine ite_yes rfl ?_
        go_simp
        refine (rNumB_any 6 rf w' (by omega) (by omega)).mono ?_
        rintro e w'' ⟨rfl, hb⟩
        exact hK _ _ hb rfl
      · intro a w' hle hk hR K hK
        have k39 : a.tmps[39]?.getD undef = .string s4 := hR 8 (by kernel_rfl)
        have k42 : a.tmps[42]?.getD undef = .string (B (numL 6 rf)) := hR 11 (by kernel_rfl)
        refine ite_yes rfl ?_
        have hcat := Nat.not_lt.2 z5.out
        have hcv := HS5.out
        go_simp
        exact hK _ _ (Below.refl _ _) rfl
      · intro a w' hle hk hR K hK
        have k43 : a.tmps[43]?.getD undef = .string s5 := hR 12 (by kernel_rfl)
        refine ite_yes rfl ?_
        go_simp
        exact hK _ _ (Below.refl _ _) rfl
    · intro f w' hle hR hN
      have f31 : f 31 = .string s2 := hR 0 31 (by kernel_rfl)
      have f32 : f 32 = .pointer (some ⟨mb, 5, none⟩) := hR 1 32 (by kernel_rfl)
      have f33 : f 33 = .int .i64 b := hR 2 33 (by kernel_rfl)
      have f34 : f 34 = .string (B (numL 6 b)) := hR 3 34 (by kernel_rfl)
      have f35 : f 35 = .string s3 := hR 4 35 (by kernel_rfl)
      have f36 : f 36 = .pointer (some ⟨mb, 2, none⟩) := hR 5 36 (by kernel_rfl)
      have f37 : f 37 = .int .i64 d := hR 6 37 (by kernel_rfl)
      have f38 : f 38 = .string (B (numL 6 d)) := hR 7 38 (by kernel_rfl)
      have f39 : f 39 = .string s4 := hR 8 39 (by kernel_rfl)
      have f40 : f 40 = .pointer (some ⟨mb, 4, none⟩) := hR 9 40 (by kernel_rfl)
      have f41 : f 41 = .int .i64 rf := hR 10 41 (by kernel_rfl)
      have f42 : f 42 = .string (B (numL 6 rf)) := hR 11 42 (by kernel_rfl)
      have f43 : f 43 = .string s5 := hR 12 43 (by kernel_rfl)
      have f3 : f 3 = .string s5 := hR 13 3 (by kernel_rfl)
      simp only [putAll, List.foldl_cons, List.foldl_nil, f31, f32, f33, f34, f35, f36, f37, f38, f39, f40, f41, f42, f43, f3, List.setIfInBounds_toArray, List.set_cons_succ, List.set_cons_zero]
      clear f31 f32 f33 f34 f35 f36 f37 f38 f39 f40 f41 f42 f43 f3
      have HB2 := Lib.hid (bstep HB1.out hle)
      have bm1 := Lib.hid (bm.out.later hle)
      have HL1 := Lib.hid (HL.out.below hle)
      clear bm HL hle hR hN
      have bm := bm1
      have HL := HL1
      clear bm1 HL1
      go_wp2_with fail
      refine wp_region_put (by kernel_rfl) (fun a b => Below a.heap.size a b) (put7R mb m A c s5 s6 s7 s8 s9) (by kernel_rfl) ?_ ?_ ?_ ?_ ?_
      · exact bdrew (Below.refl _ _)
      · exact fun _ _ _ h1 h2 => bstep h1 h2
      · exact put7R_mono mb m A c s5 s6 s7 s8 s9
      · refine ⟨?_, ?_, ?_, ?_, ?_, ?_, ?_, ?_, ?_, ?_, ?_, ?_, ?_, ?_, ?_, ?_, ?_, ?_, trivial⟩
        · intro a w' hle hk hR K hK
          have k3 : a.tmps[3]?.getD undef = .string s5 := hk 3 (by kernel_rfl)
          refine ite_yes rfl ?_
          go_simp
          exact hK _ _ (Below.refl _ _) rfl
        · intro a w' hle hk hR K hK
          have k1 : a.tmps[1]?.getD undef = .pointer (some ⟨mb, 0, none⟩) := hk 1 (by kernel_rfl)
          refine ite_yes rfl ?_
          go_simp
          exact hK _ _ (Below.refl _ _) rfl
        · intro a w' hle hk hR K hK
          have k45 : a.tmps[45]?.getD undef = .pointer (some ⟨mb, 6, none⟩) := hR 1 (by kernel_rfl)
          refine ite_yes rfl ?_
          have c0 := (bm.out.later hle).cell
          go_simp
          exact hK _ _ (Below.refl _ _) rfl
        · intro a w' hle hk hR K hK
          have k46 : a.tmps[46]?.getD undef = .string m.topic := hR 2 (by kernel_rfl)
          refine ite_yes rfl ?_
          go_simp
          refine (rTextB_any m.topic w' (by omega)).mono ?_
          rintro e w'' ⟨rfl, hb⟩
          exact hK _ _ hb rfl
        · intro a w' hle hk hR K hK
          have k44 : a.tmps[44]?.getD undef = .string s5 := hR 0 (by kernel_rfl)
          have k47 : a.tmps[47]?.getD undef = .string (B (textL (L m.topic))) := hR 3 (by kernel_rfl)
          refine ite_yes rfl ?_
          have hcat := Nat.not_lt.2 z6.out
          have hcv := HS6.out
          go_simp
          exact hK _ _ (Below.refl _ _) rfl
        · intro a w' hle hk hR K hK
          have k1 : a.tmps[1]?.getD undef = .pointer (some ⟨mb, 0, none⟩) := hk 1 (by kernel_rfl)
          refine ite_yes rfl ?_
          go_simp
          exact hK _ _ (Below.refl _ _) rfl
        · intro a w' hle hk hR K hK
          have k49 : a.tmps[49]?.getD undef = .pointer (some ⟨mb, 7, none⟩) := hR 5 (by kernel_rfl)
          refine ite_yes rfl ?_
          have c0 := (bm.out.later hle).cell
          go_simp
          exact hK _ _ (Below.refl _ _) rfl
        · intro a w' hle hk hR K hK
          have k50 : a.tmps[50]?.getD undef = .string m.tag := hR 6 (by kernel_rfl)
          refine ite_yes rfl ?_
          go_simp
          refine (rTextB_any m.tag w' (by omega)).mono ?_
          rintro e w'' ⟨rfl, hb⟩
          exact hK _ _ hb rfl
        · intro a w' hle hk hR K hK
          have k48 : a.tmps[48]?.getD undef = .string s6 := hR 4 (by kernel_rfl)
          have k51 : a.tmps[51]?.getD undef = .string (B (textL (L m.tag))) := hR 7 (by kernel_rfl)
          refine ite_yes rfl ?_
          have hcat := Nat.not_lt.2 z7.out
          have hcv := HS7.out
          go_simp
          exact hK _ _ (Below.refl _ _) rfl
        · intro a w' hle hk hR K hK
          have k1 : a.tmps[1]?.getD undef = .pointer (some ⟨mb, 0, none⟩) := hk 1 (by kernel_rfl)
          refine ite_yes rfl ?_
          go_simp
          exact hK _ _ (Below.refl _ _) rfl
        · intro a w' hle hk hR K hK
          have k53 : a.tmps[53]?.getD undef = .pointer (some ⟨mb, 8, none⟩) := hR 9 (by kernel_rfl)
          refine ite_yes rfl ?_
          have c0 := (bm.out.later hle).cell
          go_simp
          exact hK _ _ (Below.refl _ _) rfl
        · intro a w' hle hk hR K hK
          have k54 : a.tmps[54]?.getD undef = .string m.body := hR 10 (by kernel_rfl)
          refine ite_yes rfl ?_
          go_simp
          refine (rTextB_any m.body w' (by omega)).mono ?_
          rintro e w'' ⟨rfl, hb⟩
          exact hK _ _ hb rfl
        · intro a w' hle hk hR K hK
          have k52 : a.tmps[52]?.getD undef = .string s7 := hR 8 (by kernel_rfl)
          have k55 : a.tmps[55]?.getD undef = .string (B (textL (L m.body))) := hR 11 (by kernel_rfl)
          refine ite_yes rfl ?_
          have hcat := Nat.not_lt.2 z8.out
          have hcv := HS8.out
          go_simp
          exact hK _ _ (Below.refl _ _) rfl
        · intro a w' hle hk hR K hK
          have k1 : a.tmps[1]?.getD undef = .pointer (some ⟨mb, 0, none⟩) := hk 1 (by kernel_rfl)
          refine ite_yes rfl ?_
          go_simp
          exact hK _ _ (Below.refl _ _) rfl
        · intro a w' hle hk hR K hK
          have k57 : a.tmps[57]?.getD undef = .pointer (some ⟨mb, 9, none⟩) := hR 13 (by kernel_rfl)
          refine ite_yes rfl ?_
          have c0 := (bm.out.later hle).cell
          go_simp
          exact hK _ _ (Below.refl _ _) rfl
        · intro a w' hle hk hR K hK
          have k58 : a.tmps[58]?.getD undef = .slice A m.keys.length c := hR 14 (by kernel_rfl)
          refine ite_yes rfl ?_
          go_simp
          refine (rListB_any A c m.keys w' (HL.out.below hle) (by omega) hkey.out).mono ?_
          rintro e w'' ⟨rfl, hb⟩
          exact hK _ _ hb rfl
        · intro a w' hle hk hR K hK
          have k56 : a.tmps[56]?.getD undef = .string s8 := hR 12 (by kernel_rfl)
          have k59 : a.tmps[59]?.getD undef = .string (B (listL (m.keys.map L))) := hR 15 (by kernel_rfl)
          refine ite_yes rfl ?_
          have hcat := Nat.not_lt.2 z9.out
          have hcv := HS9.out
          go_simp
          exact hK _ _ (Below.refl _ _) rfl
        · intro a w' hle hk hR K hK
          have k60 : a.tmps[60]?.getD undef = .string s9 := hR 16 (by kernel_rfl)
          refine ite_yes rfl ?_
          go_simp
          exact hK _ _ (Below.refl _ _) rfl
      · intro f w' hle hR hN
        have f44 : f 44 = .string s5 := hR 0 44 (by kernel_rfl)
        have f45 : f 45 = .pointer (some ⟨mb, 6, none⟩) := hR 1 45 (by kernel_rfl)
        have f46 : f 46 = .string m.topic := hR 2 46 (by kernel_rfl)
        have f47 : f 47 = .string (B (textL (L m.topic))) := hR 3 47 (by kernel_rfl)
        have f48 : f 48 = .string s6 := hR 4 48 (by kernel_rfl)
        have f49 : f 49 = .pointer (some ⟨mb, 7, none⟩) := hR 5 49 (by kernel_rfl)
        have f50 : f 50 = .string m.tag := hR 6 50 (by kernel_rfl)
        have f51 : f 51 = .string (B (textL (L m.tag))) := hR 7 51 (by kernel_rfl)
        have f52 : f 52 = .string s7 := hR 8 52 (by kernel_rfl)
        have f53 : f 53 = .pointer (some ⟨mb, 8, none⟩) := hR 9 53 (by kernel_rfl)
        have f54 : f 54 = .string m.body := hR 10 54 (by kernel_rfl)
        have f55 : f 55 = .string (B (textL (L m.body))) := hR 11 55 (by kernel_rfl)
        have f56 : f 56 = .string s8 := hR 12 56 (by kernel_rfl)
        have f57 : f 57 = .pointer (some ⟨mb, 9, none⟩) := hR 13 57 (by kernel_rfl)
        have f58 : f 58 = .slice A m.keys.length c := hR 14 58 (by kernel_rfl)
        have f59 : f 59 = .string (B (listL (m.keys.map L))) := hR 15 59 (by kernel_rfl)
        have f60 : f 60 = .string s9 := hR 16 60 (by kernel_rfl)
        have f3 : f 3 = .string s9 := hR 17 3 (by kernel_rfl)
        simp only [putAll, List.foldl_cons, List.foldl_nil, f44, f45, f46, f47, f48, f49, f50, f51, f52, f53, f54, f55, f56, f57, f58, f59, f60, f3, List.setIfInBounds_toArray, List.set_cons_succ, List.set_cons_zero]
        clear f44 f45 f46 f47 f48 f49 f50 f51 f52 f53 f54 f55 f56 f57 f58 f59 f60 f3
        have HB3 := Lib.hid (bstep HB2.out hle)
        clear hle hR hN bm HL
        obtain ⟨hyc, q1, q2⟩ := HQ.out
        go_wp2_with (first
          | (go_at_call 25; refine (rSealB_any s9 _ hs9).mono ?_; rintro e w5 ⟨rfl, hb5⟩; have HB4 := Lib.hid (bstep HB3.out hb5)))
        refine (rNumB_any 2 y _ (by omega) (by omega)).mono ?_
        rintro e w6 ⟨rfl, hb6⟩
        have HB5 := bstep HB4.out hb6
        go_wp2
        go_ret
        exact ⟨ret_str HP.out, HB5⟩

end Go.Proofs.YtnlpohcnlmdocaaGreat
