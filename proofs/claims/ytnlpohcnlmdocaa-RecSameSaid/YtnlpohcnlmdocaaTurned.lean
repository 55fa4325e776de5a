/- The law RecTurned: its walk. -/
import Derived.Test.YtnlpohcnlmdocaaGetL
import Derived.Test.YtnlpohcnlmdocaaNewW
import Derived.Test.YtnlpohcnlmdocaaPutW
import Derived.Test.YtnlpohcnlmdocaaGreat
import Derived.Lib.ConvBytes
namespace Go.Proofs.Ytnlpohcnlmdocaa
open Go.Shelf Go.RowKit
set_option linter.unusedVariables false
set_option linter.unusedSimpArgs false

theorem TabAt.lt {w : World} {b : Nat} (h : TabAt w b) : b < w.heap.size := cell_lt (h 0 0 (by omega) (by omega))
theorem TabAt.belowB {w w' : World} {b B : Nat} (h : TabAt w b) (hb : Below B w w') (hl : b < B) : TabAt w' b := fun k j hk hj => (hb.cell (p := ⟨b, 256 * k + j, none⟩) hl).trans (h k j hk hj)
theorem fill3 : B (fillL 3) = ⟨#[90, 0, 3]⟩ := by apply L_inj; decide

set_option maxHeartbeats 1000000 in
theorem awake6_any (w : World) : Calls Try.prog 27 #[] w fun e w' => e = .returned (.bool true) ∧ Below w.heap.size w w' := by
  have hF := fill_yes 3 w (by omega) (by omega)
  rw [fill3] at hF
  have HF := Lib.hid hF
  clear hF
  go_enter Try.func27, Try.ntmps27
  go_wp2_with fail
  refine (show Calls _ _ #[.int .i64 3] _ _ from HF.out).mono ?_
  rintro e w1 ⟨rfl, hb⟩
  go_wp2
  go_ret
  exact ⟨rfl, hb⟩

theorem great_spec {m : Msg} (h : greatM m = false) : m.body.size ≤ 2000 ∧ m.topic.size ≤ 100 ∧ m.tag.size ≤ 100 ∧ m.keys.length ≤ 10 ∧ ∀ s ∈ m.keys, s.size ≤ 100 := by
  unfold greatM bigK at h
  simp only [Bool.or_eq_false_iff, decide_eq_false_iff_not, List.any_eq_false, decide_eq_true_eq] at h
  obtain ⟨h1, h2, h3, h4, h5⟩ := h
  exact ⟨by omega, by omega, by omega, by omega, fun s hs => by have := h5 s hs; omega⟩

theorem putL_len {m : Msg} {p : List UInt8} (h : putL m = some p) : 3 ≤ p.length ∧ p.length ≤ 2100 := by
  have hr : rightM m = true := by
    unfold putL at h; split at h
    · assumption
    · cases h
  unfold putL at h
  rw [if_pos hr] at h
  split at h
  · rename_i hk
    split at h
    · rename_i h3
      cases h
      obtain ⟨_, hh⟩ := right_kinds hr
      have hf : fillM m = true := by
        rcases hh with ⟨k, _⟩ | ⟨k, _⟩ | ⟨k, _⟩ | ⟨k, _⟩ | ⟨_, hf⟩
        · omega
        · omega
        · omega
        · omega
        · exact hf
      have := (fill_spec hf).1
      rw [fillL_len h3]; omega
    · cases h
  · rename_i hk
    cases h
    have := insideL_len (right_in hr hk)
    simp only [List.length_cons, List.length_append, numL_len, sealL_len]; omega

/-- The bytes' own word on how many they are. -/
theorem putL_says {m : Msg} {p : List UInt8} (h : putL m = some p) : ∃ c r, p = c :: (numL 2 p.length ++ r) := by
  have hr : rightM m = true := by
    unfold putL at h; split at h
    · assumption
    · cases h
  unfold putL at h
  rw [if_pos hr] at h
  split at h
  · split at h
    · rename_i h3
      cases h
      exact ⟨90, noughtsL (m.body.size - 3), by rw [fillL_len h3]; rfl⟩
    · cases h
  · cases h
    refine ⟨165, sealL (insideL m), ?_⟩
    have e : (165 :: (numL 2 (7 + (insideL m).length) ++ sealL (insideL m)) : List UInt8).length = 7 + (insideL m).length := by
      simp only [List.length_cons, List.length_append, numL_len, sealL_len]; omega
    rw [e]

def turnR (s : ByteArray) (mb xb : Nat) (m x : Msg) (A A' : Option Addr) (c c' : Nat) (x1 x2 : Nat) (er : Int) (n : Nat) (okF : Bool) : Nat → Value → World → Prop
  | 0, v, _ => v = .string s
  | 1, v, _ => v = .int .u8 x1
  | 2, v, _ => v = .int .i64 x1
  | 3, v, _ => v = .int .i64 ((x1 : Int) * 256)
  | 4, v, _ => v = .string s
  | 5, v, _ => v = .int .u8 x2
  | 6, v, _ => v = .int .i64 x2
  | 7, v, _ => v = .int .i64 s.size
  | 8, v, _ => v = .string s
  | 9, v, _ => v = .int .i64 s.size
  | 10, v, _ => v = .bool true
  | 11, v, _ => v = .bool true
  | 12, v, _ => v = .int .i64 er
  | 13, v, _ => v = .bool (!okF)
  | 14, v, _ => v = .bool (!okF)
  | 15, v, _ => okF = true → v = .agg #[.int .i64 x.kind, .int .i64 x.queue, .int .i64 x.due, .int .i64 x.retry, .int .i64 x.ref, .int .i64 x.born, .string x.topic, .string x.tag, .string x.body, .slice A' x.keys.length c']
  | 16, v, _ => okF = true → v = .agg #[.int .i64 m.kind, .int .i64 m.queue, .int .i64 m.due, .int .i64 m.retry, .int .i64 m.ref, .int .i64 m.born, .string m.topic, .string m.tag, .string m.body, .slice A m.keys.length c]
  | 17, v, _ => okF = true → v = .bool false
  | 18, v, _ => okF = true → v = .bool true
  | 19, v, _ => v = .bool true
  | 20, v, _ => v = .bool true
  | 21, v, _ => v = .bool true
  | 22, v, _ => v = .int .i64 er
  | 23, v, _ => v = .bool okF
  | 24, v, _ => v = .bool okF
  | 25, v, _ => okF = false → v = .int .i64 n
  | 26, v, _ => okF = false → v = .bool true
  | 27, v, _ => v = .bool true
  | 28, v, _ => v = .bool true
  | 29, v, _ => v = .bool true
  | _, _, _ => True
theorem turnR_mono (s : ByteArray) (mb xb : Nat) (m x : Msg) (A A' : Option Addr) (c c' : Nat) (x1 x2 : Nat) (er : Int) (n : Nat) (okF : Bool) : ∀ i v w1 w2, Below w1.heap.size w1 w2 → turnR s mb xb m x A A' c c' x1 x2 er n okF i v w1 → turnR s mb xb m x A A' c c' x1 x2 er n okF i v w2 := by
  intro i v w1 w2 hle h
  match i with
  | 0 | 1 | 2 | 3 | 4 | 5 | 6 | 7 | 8 | 9 | 10 | 11 | 12 | 13 | 14 | 15 | 16 | 17 | 18 | 19 | 20 | 21 | 22 | 23 | 24 | 25 | 26 | 27 | 28 | 29 => exact h
  | _ + 30 => trivial

theorem getL_keys (l : List UInt8) : (getL l).2.2.keys.length ≤ 255 := by
  unfold getL getT
  repeat' split
  all_goals first
    | exact Nat.zero_le _
    | (show (openedL _).1.keys.length ≤ 255
       unfold openedL; dsimp only; rw [List.length_map]; exact (listR_small 3 16 _).1)
theorem turned_law {m : Msg} {s s' : ByteArray} {i y n : Nat} {x : Msg} (hp : putL m = some (L s)) (hi : i < s.size) (hs : L s' = (L s).set i (UInt8.ofNat y)) (hy : y < 256) (hne : y ≠ ((L s).getD i 0).toNat) (hg : getL (L s') = (0, n, x)) : sameM x m = false := by
  rw [Bool.eq_false_iff]
  intro h
  have e := (sameM_iff _ _).1 h
  obtain ⟨h1, h2⟩ := get_sound hg
  rw [e, hp] at h1
  have h3 := Option.some.inj h1
  have h4 := congrArg List.length h3
  have h5 : (L s').length = (L s).length := by rw [hs, List.length_set]
  rw [List.length_take] at h4
  have h6 : (L s').take n = L s' := List.take_of_length_le (by omega)
  rw [h6, hs] at h3
  have h7 := congrArg (fun l : List UInt8 => (l.getD i 0).toNat) h3
  have hil : i < (L s).length := by rw [L_len]; exact hi
  simp only [List.getD_eq_getElem?_getD, List.getElem?_set_self hil, Option.getD_some] at h7
  rw [List.getD_eq_getElem?_getD] at hne
  apply hne
  rw [h7]; simp; omega
theorem says_or {m : Msg} {s : ByteArray} (hp : putL m = some (L s)) (h1 : 1 < s.size) (h2 : 2 < s.size) : bits .or .i64 ((s[1].toNat : Int) * 256) (s[2].toNat : Int) = (s.size : Int) := by
  obtain ⟨c, r, e⟩ := putL_says hp
  have hl := (putL_len hp).2
  rw [L_len] at e hl
  have g1 : s[1] = UInt8.ofNat (s.size / 256 % 256) := by
    have := L_get s 1 h1
    rw [← this]
    have e1 : (L s)[1]? = some (UInt8.ofNat (s.size / 256 % 256)) := by rw [e]; simp [numL]
    rw [List.getElem?_eq_getElem (by rw [L_len]; exact h1)] at e1
    exact Option.some.inj e1
  have g2 : s[2] = UInt8.ofNat (s.size % 256) := by
    have := L_get s 2 h2
    rw [← this]
    have e1 : (L s)[2]? = some (UInt8.ofNat (s.size % 256)) := by rw [e]; simp [numL]
    rw [List.getElem?_eq_getElem (by rw [L_len]; exact h2)] at e1
    exact Option.some.inj e1
  have t1 : s[1].toNat = s.size / 256 := by rw [g1]; simp; omega
  have t2 : s[2].toNat = s.size % 256 := by rw [g2]; simp
  have := or_byte (s.size / 256) (s.size % 256) (by omega) (by omega)
  rw [wrap64_in (by omega) (by omega)] at this
  rw [t1, t2, this]; omega

set_option maxRecDepth 100000 in
set_option maxHeartbeats 8000000 in
theorem turned_walk (m : Msg) (A : Option Addr) (c : Nat) (at_ by_ : Nat) (w : World) (hl : Strs w A m.keys) (ha : at_ < 65536) (hy : by_ < 256) :
    Calls Try.prog 7 #[.agg #[.int .i64 m.kind, .int .i64 m.queue, .int .i64 m.due, .int .i64 m.retry, .int .i64 m.ref, .int .i64 m.born, .string m.topic, .string m.tag, .string m.body, .slice A m.keys.length c], .int .u16 at_, .int .u8 by_] w fun e w' => e = .returned (.bool true) ∧ Below w.heap.size w w' := by
  have HL := Lib.hid hl
  clear hl
  have b0 := Blk.new w 39 #[.int .i64 m.kind, .int .i64 m.queue, .int .i64 m.due, .int .i64 m.retry, .int .i64 m.ref, .int .i64 m.born, .string m.topic, .string m.tag, .string m.body, .slice A m.keys.length c]
  have HB0 : Below w.heap.size w (w.alloc (.cells #[.int .i64 m.kind, .int .i64 m.queue, .int .i64 m.due, .int .i64 m.retry, .int .i64 m.ref, .int .i64 m.born, .string m.topic, .string m.tag, .string m.body, .slice A m.keys.length c] 39)) := balloc (Below.refl _ _)
  go_enter Try.func7, Try.ntmps7
  go_wp2_with fail
  refine (awake6_any _).mono ?_
  rintro e w1 ⟨rfl, hb1⟩
  have b1 := b0.later hb1
  have HB1 := bstep HB0 hb1
  clear b0 HB0 hb1
  have c1 := b1.cell
  have bg := Blk.new w1 39 #[.int .i64 m.kind, .int .i64 m.queue, .int .i64 m.due, .int .i64 m.retry, .int .i64 m.ref, .int .i64 m.born, .string m.topic, .string m.tag, .string m.body, .slice A m.keys.length c]
  go_wp2_with fail
  refine (great_any m A c w1.heap.size _ (HL.out.below (balloc HB1)) bg).mono ?_
  rintro e w2 ⟨rfl, hb2⟩
  have b2 := (b1.later (balloc (Below.refl _ _))).later hb2
  have HB2 := bstep (balloc HB1) hb2
  clear b1 HB1 hb2 c1 bg
  rcases Bool.eq_false_or_eq_true (greatM m) with hG | hG
  · rw [hG]
    go_wp2
    go_ret
    exact ⟨rfl, HB2⟩
  rw [hG]
  by_cases hy0 : by_ = 0
  · have d0 : ((by_ : Int) == 0) = true := by rw [beq_iff_eq]; omega
    clear hy0
    go_wp2
    go_ret
    exact ⟨rfl, HB2⟩
  have d0 : ((by_ : Int) == 0) = false := by rw [beq_eq_false_iff_ne]; omega
  obtain ⟨g1, g2, g3, g4, g5⟩ := great_spec hG
  clear hG
  go_wp2_with fail
  refine (new_any w2).mono ?_
  rintro e w3 ⟨rfl, hT, hb3⟩
  have b3 := b2.later hb3
  have HB3 := bstep HB2 hb3
  have HT := Lib.hid hT
  clear b2 HB2 hb3 hT
  obtain ⟨tb, htb⟩ : ∃ tb, w2.heap.size = tb := ⟨_, rfl⟩
  rw [htb] at HT ⊢
  clear htb
  have c3 := b3.cell
  go_wp2_with fail
  refine (put_any' m A c tb w3 (HL.out.below HB3) (by omega) (fun s hs => by have := g5 s hs; omega) HT.out).mono ?_
  rintro e w4 ⟨rfl, hb4⟩
  have b4 := b3.later hb4
  have HB4 := bstep HB3 hb4
  have HT4 := Lib.hid (HT.out.below hb4)
  clear b3 HB3 hb4 c3
  cases hP : putL m with
  | none =>
    unfold putV
    rw [hP]
    go_wp2
    go_ret
    exact ⟨rfl, HB4⟩
  | some p =>
    unfold putV
    rw [hP]
    have HP := Lib.hid hP
    clear hP
    obtain ⟨hp3, hpl⟩ := putL_len HP.out
    obtain ⟨s, hs⟩ : ∃ s : ByteArray, B p = s := ⟨_, rfl⟩
    have hsz : s.size = p.length := by rw [← hs, B_size]
    have hLs : L s = p := by rw [← hs]; exact L_B p
    simp only [Option.getD_some, Option.isSome_some, if_true]
    rw [hs]
    have HLs := Lib.hid hLs
    have hs3 : 3 ≤ s.size := by omega
    have hs21 : s.size ≤ 2100 := by omega
    clear hs hsz hLs hp3 hpl
    obtain ⟨i, hi⟩ : ∃ i, at_ % s.size = i := ⟨_, rfl⟩
    have hlt : i < s.size := by rw [← hi]; exact Nat.mod_lt _ (by omega)
    have him : (at_ : Int) % (s.size : Int) = (i : Int) := by rw [← hi]; omega
    have hs0 : (0 : Int) < (s.size : Int) := by omega
    have hi0 : (0 : Int) ≤ (i : Int) := by omega
    have hi1 : (i : Int) < (s.size : Int) := by omega
    clear hi
    have hcv := Lib.run_convert_string_bytes (P := Try.prog) w4 9 58 5 s Try.underlying9 Try.underlying58 Try.underlying5
    have hcell : ∀ j, j < s.size → (Lib.bytesWorld w4 5 s).cell? ⟨w4.heap.size, j, none⟩ = some (.int .u8 (((L s).getD j 0).toNat : Nat)) := fun j hj => Lib.bytesWorld_cell w4 _ s j hj
    have hfz : ∀ j, j < s.size → (Lib.bytesWorld w4 5 s).frozen? ⟨w4.heap.size, j, none⟩ = false := fun j hj => by
      have := Lib.bytesWorld_at_new w4 5 s
      unfold World.frozen?
      rw [this]
      simp [Lib.bytesCells]
      have := grownCap_ge w4 s.size 0 5
      omega
    have HB5 : Below w.heap.size w (Lib.bytesWorld w4 5 s) := bstep HB4 ⟨rfl, rfl, rfl, by rw [Lib.bytesWorld_size]; omega, fun k hk => Lib.bytesWorld_at_old w4 _ s k hk⟩
    have hLe : Below w4.heap.size w4 (Lib.bytesWorld w4 5 s) := ⟨rfl, rfl, rfl, by rw [Lib.bytesWorld_size]; omega, fun k hk => Lib.bytesWorld_at_old w4 _ s k hk⟩
    have hsz5 : w4.heap.size < (Lib.bytesWorld w4 5 s).heap.size := by rw [Lib.bytesWorld_size]; omega
    have b5 := b4.later hLe
    have HT5 := Lib.hid (HT4.out.below hLe)
    have hbm : w.heap.size < w4.heap.size := b4.lt
    have htl : tb < w4.heap.size := HT4.out.lt
    generalize Lib.bytesWorld w4 5 s = w5 at *
    generalize grownCap w4 s.size 0 5 = cap at *
    clear hLe b4 HT4
    have hwb : w.heap.size ≤ w4.heap.size := Nat.le_of_lt hbm
    obtain ⟨bb, hbb⟩ : ∃ bb, w4.heap.size = bb := ⟨_, rfl⟩
    rw [hbb] at hcv hcell hfz hsz5 hbm hwb htl
    clear hbb HB4
    obtain ⟨x0, hx0⟩ : ∃ x0, ((L s).getD i 0).toNat = x0 := ⟨_, rfl⟩
    have hx256 : x0 < 256 := by rw [← hx0]; exact UInt8.toNat_lt _
    have hci := hcell i hlt
    rw [hx0] at hci
    have hfi := hfz i hlt
    have hxor := u8_xor_nat x0 by_ hx256 hy
    have hy256 : x0 ^^^ by_ < 256 := Nat.xor_lt_two_pow (n := 8) hx256 hy
    obtain ⟨y, hyy⟩ : ∃ y, x0 ^^^ by_ = y := ⟨_, rfl⟩
    have HY := Lib.hid (show y ≠ x0 by
      intro e
      have h1 : x0 ^^^ (x0 ^^^ by_) = x0 ^^^ x0 := by rw [hyy, e]
      rw [← Nat.xor_assoc, Nat.xor_self, Nat.zero_xor] at h1
      exact hy0 h1)
    rw [hyy] at hxor hy256
    obtain ⟨s', hs'⟩ : ∃ s', B ((L s).set i (UInt8.ofNat y)) = s' := ⟨_, rfl⟩
    have hb' : ((UInt8.ofNat y).toNat : Int) = (y : Int) := by
      have : (UInt8.ofNat y).toNat = y := by simp; omega
      rw [this]
    have hcb := run_convert_bytes_back (P := Try.prog) (w5.setCell ⟨bb, i, none⟩ (.int .u8 y)) 58 9 5 ⟨bb, 0, none⟩ cap ((L s).set i (UInt8.ofNat y)) Try.underlying58 Try.underlying5 Try.underlying9 (fun j hj => by
      have hjs : j < s.size := by rw [List.length_set, L_len] at hj; exact hj
      have e : (Addr.mk bb 0 none).add j = ⟨bb, j, none⟩ := by unfold Addr.add; split <;> simp_all
      rw [e]
      by_cases hij : i = j
      · subst hij
        rw [World.cell?_setCell_same _ _ _ hci, List.getElem_set_self, hb']
      · rw [World.cell?_setCell_other _ _ _ _ (by intro e; injection e with _ e2 _; exact hij e2), hcell j hjs, List.getElem_set_ne hij]
        simp [hjs, L_len])
    rw [List.length_set, L_len] at hcb
    rw [show (⟨((L s).set i (UInt8.ofNat y)).toArray⟩ : ByteArray) = s' from hs'] at hcb
    have HS' := Lib.hid (show L s' = (L s).set i (UInt8.ofNat y) by rw [← hs']; exact L_B _)
    have HX0 := Lib.hid hx0
    clear hs' hx0 hyy hcell hfz
    have hz' : s'.size = s.size := by rw [← L_len s', HS'.out, List.length_set, L_len]
    have hzz : s'.size ≤ 140737488355328 := by omega
    have HZ' := Lib.hid hz'
    clear hz'
    have hsc : Below bb w5 (w5.setCell ⟨bb, i, none⟩ (.int .u8 y)) := (Below.refl bb w5).setCell (Nat.le_refl _) _
    have HT6 := Lib.hid (HT5.out.belowB hsc htl)
    have b6 := b5.below hsc hbm
    have HB6 := HB5.trans (hsc.mono hwb)
    clear b5 HT5 HB5
    go_wp2_with fail
    refine (rGet_any tb s' _ hzz HT6.out).mono ?_
    clear hcv hci hfi hcb hxor
    rintro x w7 ⟨A', c', rfl, hS7, hb7⟩
    have b7 := b6.later hb7
    have HB7 := bstep HB6 hb7
    have HS7 := Lib.hid hS7
    clear b6 hb7 hS7 hsc HB6 HT6 htl hsz5
    generalize hg : getL (L s') = r at *
    obtain ⟨er, n, mx⟩ := r
    have HG := Lib.hid hg
    clear hg
    dsimp only
    have bx := Blk.new w7 39 (msgCells mx A' c')
    have b8 := b7.later (balloc (o := .cells (msgCells mx A' c') 39) (Below.refl _ _))
    have HB8 := balloc (o := .cells (msgCells mx A' c') 39) HB7
    have HS8 := Lib.hid (HS7.out.below (balloc (o := .cells (msgCells mx A' c') 39) (Below.refl _ _)))
    unfold msgCells at bx b8 HB8 HS8 ⊢
    dsimp only at HS8
    have hkx : mx.keys.length ≤ 9223372036854775806 := by
      have := getL_keys (L s')
      rw [HG.out] at this; dsimp only at this; omega
    have hkm : m.keys.length ≤ 9223372036854775806 := by omega
    have HM8 := Lib.hid (HL.out.below HB8)
    go_wp2_with fail
    generalize w7.alloc _ = w8 at *
    generalize w7.heap.size = xb at *
    obtain ⟨mb, hmb⟩ : ∃ mb, w.heap.size = mb := ⟨_, rfl⟩
    have bx' := Lib.hid bx
    have bm' := Lib.hid b8
    have HX' := HS8
    have HM' := HM8
    have HB8' := Lib.hid HB8
    have HPs := Lib.hid (show putL m = some (L s) by rw [HLs.out]; exact HP.out)
    have hor := says_or HPs.out (by omega) (by omega)
    have b1 := (s[1]'(by omega)).toNat_lt
    have b2 := (s[2]'(by omega)).toNat_lt
    obtain ⟨x1, hx1⟩ : ∃ x1, (s[1]'(by omega)).toNat = x1 := ⟨_, rfl⟩
    obtain ⟨x2, hx2⟩ : ∃ x2, (s[2]'(by omega)).toNat = x2 := ⟨_, rfl⟩
    rw [hx1] at hor b1
    rw [hx2] at hor b2
    have j1 : (1 : Int) < (s.size : Int) := by omega
    have j2 : (2 : Int) < (s.size : Int) := by omega
    clear bx b8 HB8 HS8 HM8 HB7 b7 HS7
    have hw1 : IntKind.i64.wrap (x1 : Int) = (x1 : Int) := wrap_i64 (by omega) (by omega)
    have hw2 : IntKind.i64.wrap (x2 : Int) = (x2 : Int) := wrap_i64 (by omega) (by omega)
    have hw3 : IntKind.i64.wrap ((x1 : Int) * 256) = (x1 : Int) * 256 := wrap_i64 (by omega) (by omega)
    rw [hmb] at bm' ⊢
    clear hmb him hi0 hi1 hs0
    rcases Bool.eq_false_or_eq_true (er == 0) with hok | hok
    · have her : er = 0 := by simpa using hok
      have hne : (er != 0) = false := by rw [bne, hok]; rfl
      have HSm := Lib.hid (show sameM mx m = false from turned_law HPs.out hlt HS'.out hy256 (by rw [HX0.out]; exact HY.out) (by rw [HG.out, her]))
      clear her
      refine wp_region_put (by kernel_rfl) (fun a b => Below a.heap.size a b) (turnR s mb xb m mx A A' c c' x1 x2 er n true) (by kernel_rfl) ?_ ?_ ?_ ?_ ?_
      · exact bdrew (Below.refl _ _)
      · exact fun _ _ _ h1 h2 => bstep h1 h2
      · exact turnR_mono s mb xb m mx A A' c c' x1 x2 er n true
      · refine ⟨?_, ?_, ?_, ?_, ?_, ?_, ?_, ?_, ?_, ?_, ?_, ?_, ?_, ?_, ?_, ?_, ?_, ?_, ?_, ?_, ?_, ?_, ?_, ?_, ?_, ?_, ?_, ?_, ?_, ?_, trivial⟩
        · intro a w' hle hk hR K hK
          have k8 : a.tmps[8]?.getD undef = .string s := hk 8 (by kernel_rfl)
          refine ite_yes rfl ?_
          go_simp
          exact hK _ _ (Below.refl _ _) rfl
        · intro a w' hle hk hR K hK
          have k53 : a.tmps[53]?.getD undef = .string s := hR 0 (by kernel_rfl)
          refine ite_yes rfl ?_
          go_simp
          exact hK _ _ (Below.refl _ _) rfl
        · intro a w' hle hk hR K hK
          have k54 : a.tmps[54]?.getD undef = .int .u8 x1 := hR 1 (by kernel_rfl)
          refine ite_yes rfl ?_
          go_simp
          exact hK _ _ (Below.refl _ _) rfl
        · intro a w' hle hk hR K hK
          have k55 : a.tmps[55]?.getD undef = .int .i64 x1 := hR 2 (by kernel_rfl)
          refine ite_yes rfl ?_
          go_simp
          exact hK _ _ (Below.refl _ _) rfl
        · intro a w' hle hk hR K hK
          have k8 : a.tmps[8]?.getD undef = .string s := hk 8 (by kernel_rfl)
          refine ite_yes rfl ?_
          go_simp
          exact hK _ _ (Below.refl _ _) rfl
        · intro a w' hle hk hR K hK
          have k57 : a.tmps[57]?.getD undef = .string s := hR 4 (by kernel_rfl)
          refine ite_yes rfl ?_
          go_simp
          exact hK _ _ (Below.refl _ _) rfl
        · intro a w' hle hk hR K hK
          have k58 : a.tmps[58]?.getD undef = .int .u8 x2 := hR 5 (by kernel_rfl)
          refine ite_yes rfl ?_
          go_simp
          exact hK _ _ (Below.refl _ _) rfl
        · intro a w' hle hk hR K hK
          have k56 : a.tmps[56]?.getD undef = .int .i64 ((x1 : Int) * 256) := hR 3 (by kernel_rfl)
          have k59 : a.tmps[59]?.getD undef = .int .i64 x2 := hR 6 (by kernel_rfl)
          refine ite_yes rfl ?_
          go_simp
          exact hK _ _ (Below.refl _ _) rfl
        · intro a w' hle hk hR K hK
          have k8 : a.tmps[8]?.getD undef = .string s := hk 8 (by kernel_rfl)
          refine ite_yes rfl ?_
          go_simp
          exact hK _ _ (Below.refl _ _) rfl
        · intro a w' hle hk hR K hK
          have k61 : a.tmps[61]?.getD undef = .string s := hR 8 (by kernel_rfl)
          refine ite_yes rfl ?_
          go_simp
          exact hK _ _ (Below.refl _ _) rfl
        · intro a w' hle hk hR K hK
          have k60 : a.tmps[60]?.getD undef = .int .i64 s.size := hR 7 (by kernel_rfl)
          have k62 : a.tmps[62]?.getD undef = .int .i64 s.size := hR 9 (by kernel_rfl)
          refine ite_yes rfl ?_
          go_simp
          exact hK _ _ (Below.refl _ _) rfl
        · intro a w' hle hk hR K hK
          have k63 : a.tmps[63]?.getD undef = .bool true := hR 10 (by kernel_rfl)
          refine ite_yes rfl ?_
          go_simp
          exact hK _ _ (Below.refl _ _) rfl
        · intro a w' hle hk hR K hK
          have k13 : a.tmps[13]?.getD undef = .int .i64 er := hk 13 (by kernel_rfl)
          refine ite_yes (wanted_of rfl (by kernel_rfl) (hR 11 (by kernel_rfl))) ?_
          go_simp
          exact hK _ _ (Below.refl _ _) rfl
        · intro a w' hle hk hR K hK
          have k65 : a.tmps[65]?.getD undef = .int .i64 er := hR 12 (by kernel_rfl)
          refine ite_yes (wanted_of rfl (by kernel_rfl) (hR 11 (by kernel_rfl))) ?_
          go_simp
          exact hK _ _ (Below.refl _ _) rfl
        · intro a w' hle hk hR K hK
          have k66 : a.tmps[66]?.getD undef = .bool false := hR 13 (by kernel_rfl)
          refine ite_yes (wanted_of rfl (by kernel_rfl) (hR 11 (by kernel_rfl))) ?_
          go_simp
          exact hK _ _ (Below.refl _ _) rfl
        · intro a w' hle hk hR K hK
          have k11 : a.tmps[11]?.getD undef = .pointer (some ⟨xb, 0, none⟩) := hk 11 (by kernel_rfl)
          refine ite_yes (wanted_of rfl (by kernel_rfl) (hR 14 (by kernel_rfl))) ?_
          have c0 := (bx'.out.later hle).cell
          go_simp
          exact hK _ _ (Below.refl _ _) (fun _ => rfl)
        · intro a w' hle hk hR K hK
          have k3 : a.tmps[3]?.getD undef = .pointer (some ⟨mb, 0, none⟩) := hk 3 (by kernel_rfl)
          refine ite_yes (wanted_of rfl (by kernel_rfl) (hR 14 (by kernel_rfl))) ?_
          have c0 := (bm'.out.later hle).cell
          go_simp
          exact hK _ _ (Below.refl _ _) (fun _ => rfl)
        · intro a w' hle hk hR K hK
          refine ite_yes (wanted_of rfl (by kernel_rfl) (hR 14 (by kernel_rfl))) ?_
          have k68 : a.tmps[68]?.getD undef = .agg #[.int .i64 mx.kind, .int .i64 mx.queue, .int .i64 mx.due, .int .i64 mx.retry, .int .i64 mx.ref, .int .i64 mx.born, .string mx.topic, .string mx.tag, .string mx.body, .slice A' mx.keys.length c'] := hR 15 (by kernel_rfl) rfl
          have k69 : a.tmps[69]?.getD undef = .agg #[.int .i64 m.kind, .int .i64 m.queue, .int .i64 m.due, .int .i64 m.retry, .int .i64 m.ref, .int .i64 m.born, .string m.topic, .string m.tag, .string m.body, .slice A m.keys.length c] := hR 16 (by kernel_rfl) rfl
          go_simp
          refine (same_any mx m A' A c' c w' (HX'.out.below hle) (HM'.out.below hle) hkx hkm).mono ?_
          rintro e w'' ⟨rfl, hb⟩
          exact hK _ _ hb (fun _ => by rw [HSm.out])
        · intro a w' hle hk hR K hK
          refine ite_yes (wanted_of rfl (by kernel_rfl) (hR 14 (by kernel_rfl))) ?_
          have k70 : a.tmps[70]?.getD undef = .bool false := hR 17 (by kernel_rfl) rfl
          go_simp
          exact hK _ _ (Below.refl _ _) (fun _ => rfl)
        · intro a w' hle hk hR K hK
          have k67 : a.tmps[67]?.getD undef = .bool false := hR 14 (by kernel_rfl)
          refine ite_yes (wanted_of rfl (by kernel_rfl) (hR 11 (by kernel_rfl))) ?_
          have k71 : a.tmps[71]?.getD undef = .bool true := hR 18 (by kernel_rfl) rfl
          go_simp
          exact hK _ _ (Below.refl _ _) rfl
        · intro a w' hle hk hR K hK
          have k64 : a.tmps[64]?.getD undef = .bool true := hR 11 (by kernel_rfl)
          have k72 : a.tmps[72]?.getD undef = .bool true := hR 19 (by kernel_rfl)
          refine ite_yes rfl ?_
          go_simp
          exact hK _ _ (Below.refl _ _) rfl
        · intro a w' hle hk hR K hK
          have k73 : a.tmps[73]?.getD undef = .bool true := hR 20 (by kernel_rfl)
          refine ite_yes rfl ?_
          go_simp
          exact hK _ _ (Below.refl _ _) rfl
        · intro a w' hle hk hR K hK
          have k13 : a.tmps[13]?.getD undef = .int .i64 er := hk 13 (by kernel_rfl)
          refine ite_yes (wanted_of rfl (by kernel_rfl) (hR 21 (by kernel_rfl))) ?_
          go_simp
          exact hK _ _ (Below.refl _ _) rfl
        · intro a w' hle hk hR K hK
          have k75 : a.tmps[75]?.getD undef = .int .i64 er := hR 22 (by kernel_rfl)
          refine ite_yes (wanted_of rfl (by kernel_rfl) (hR 21 (by kernel_rfl))) ?_
          go_simp
          exact hK _ _ (Below.refl _ _) rfl
        · intro a w' hle hk hR K hK
          have k76 : a.tmps[76]?.getD undef = .bool true := hR 23 (by kernel_rfl)
          refine ite_yes (wanted_of rfl (by kernel_rfl) (hR 21 (by kernel_rfl))) ?_
          go_simp
          exact hK _ _ (Below.refl _ _) rfl
        · intro a w' hle hk hR K hK
          refine ite_no (unwanted_of rfl (by kernel_rfl) (hR 24 (by kernel_rfl))) ?_
          exact hK undef _ (Below.refl _ _) (fun h => by cases h)
        · intro a w' hle hk hR K hK
          refine ite_no (unwanted_of rfl (by kernel_rfl) (hR 24 (by kernel_rfl))) ?_
          exact hK undef _ (Below.refl _ _) (fun h => by cases h)
        · intro a w' hle hk hR K hK
          have k77 : a.tmps[77]?.getD undef = .bool true := hR 24 (by kernel_rfl)
          refine ite_yes (wanted_of rfl (by kernel_rfl) (hR 21 (by kernel_rfl))) ?_
          go_simp
          exact hK _ _ (Below.refl _ _) rfl
        · intro a w' hle hk hR K hK
          have k74 : a.tmps[74]?.getD undef = .bool true := hR 21 (by kernel_rfl)
          have k80 : a.tmps[80]?.getD undef = .bool true := hR 27 (by kernel_rfl)
          refine ite_yes rfl ?_
          go_simp
          exact hK _ _ (Below.refl _ _) rfl
        · intro a w' hle hk hR K hK
          have k81 : a.tmps[81]?.getD undef = .bool true := hR 28 (by kernel_rfl)
          refine ite_yes rfl ?_
          go_simp
          exact hK _ _ (Below.refl _ _) rfl
      · intro f w' hle hR hN
        have f53 : f 53 = .string s := hR 0 53 (by kernel_rfl)
        have f54 : f 54 = .int .u8 x1 := hR 1 54 (by kernel_rfl)
        have f55 : f 55 = .int .i64 x1 := hR 2 55 (by kernel_rfl)
        have f56 : f 56 = .int .i64 ((x1 : Int) * 256) := hR 3 56 (by kernel_rfl)
        have f57 : f 57 = .string s := hR 4 57 (by kernel_rfl)
        have f58 : f 58 = .int .u8 x2 := hR 5 58 (by kernel_rfl)
        have f59 : f 59 = .int .i64 x2 := hR 6 59 (by kernel_rfl)
        have f60 : f 60 = .int .i64 s.size := hR 7 60 (by kernel_rfl)
        have f61 : f 61 = .string s := hR 8 61 (by kernel_rfl)
        have f62 : f 62 = .int .i64 s.size := hR 9 62 (by kernel_rfl)
        have f63 : f 63 = .bool true := hR 10 63 (by kernel_rfl)
        have f64 : f 64 = .bool true := hR 11 64 (by kernel_rfl)
        have f65 : f 65 = .int .i64 er := hR 12 65 (by kernel_rfl)
        have f66 : f 66 = .bool false := hR 13 66 (by kernel_rfl)
        have f67 : f 67 = .bool false := hR 14 67 (by kernel_rfl)
        have f72 : f 72 = .bool true := hR 19 72 (by kernel_rfl)
        have f73 : f 73 = .bool true := hR 20 73 (by kernel_rfl)
        have f74 : f 74 = .bool true := hR 21 74 (by kernel_rfl)
        have f75 : f 75 = .int .i64 er := hR 22 75 (by kernel_rfl)
        have f76 : f 76 = .bool true := hR 23 76 (by kernel_rfl)
        have f77 : f 77 = .bool true := hR 24 77 (by kernel_rfl)
        have f80 : f 80 = .bool true := hR 27 80 (by kernel_rfl)
        have f81 : f 81 = .bool true := hR 28 81 (by kernel_rfl)
        have f6 : f 6 = .bool true := hR 29 6 (by kernel_rfl)
        simp only [putAll, List.foldl_cons, List.foldl_nil, f53, f54, f55, f56, f57, f58, f59, f60, f61, f62, f63, f64, f65, f66, f67, f72, f73, f74, f75, f76, f77, f80, f81, f6, List.setIfInBounds_toArray, List.set_cons_succ, List.set_cons_zero]
        clear f53 f54 f55 f56 f57 f58 f59 f60 f61 f62 f63 f64 f65 f66 f67 f72 f73 f74 f75 f76 f77 f80 f81 f6
        go_wp2
        go_ret
        exact ⟨rfl, bstep HB8'.out hle⟩
    · have hne : (er != 0) = true := by rw [bne, hok]; rfl
      have hn0 : n = 0 := get_err HG.out (by simpa using hok)
      have hn0b : ((n : Int) == 0) = true := by rw [hn0]; rfl
      clear hn0
      refine wp_region_put (by kernel_rfl) (fun a b => Below a.heap.size a b) (turnR s mb xb m mx A A' c c' x1 x2 er n false) (by kernel_rfl) ?_ ?_ ?_ ?_ ?_
      · exact bdrew (Below.refl _ _)
      · exact fun _ _ _ h1 h2 => bstep h1 h2
      · exact turnR_mono s mb xb m mx A A' c c' x1 x2 er n false
      · refine ⟨?_, ?_, ?_, ?_, ?_, ?_, ?_, ?_, ?_, ?_, ?_, ?_, ?_, ?_, ?_, ?_, ?_, ?_, ?_, ?_, ?_, ?_, ?_, ?_, ?_, ?_, ?_, ?_, ?_, ?_, trivial⟩
        · intro a w' hle hk hR K hK
          have k8 : a.tmps[8]?.getD undef = .string s := hk 8 (by kernel_rfl)
          refine ite_yes rfl ?_
          go_simp
          exact hK _ _ (Below.refl _ _) rfl
        · intro a w' hle hk hR K hK
          have k53 : a.tmps[53]?.getD undef = .string s := hR 0 (by kernel_rfl)
          refine ite_yes rfl ?_
          go_simp
          exact hK _ _ (Below.refl _ _) rfl
        · intro a w' hle hk hR K hK
          have k54 : a.tmps[54]?.getD undef = .int .u8 x1 := hR 1 (by kernel_rfl)
          refine ite_yes rfl ?_
          go_simp
          exact hK _ _ (Below.refl _ _) rfl
        · intro a w' hle hk hR K hK
          have k55 : a.tmps[55]?.getD undef = .int .i64 x1 := hR 2 (by kernel_rfl)
          refine ite_yes rfl ?_
          go_simp
          exact hK _ _ (Below.refl _ _) rfl
        · intro a w' hle hk hR K hK
          have k8 : a.tmps[8]?.getD undef = .string s := hk 8 (by kernel_rfl)
          refine ite_yes rfl ?_
          go_simp
          exact hK _ _ (Below.refl _ _) rfl
        · intro a w' hle hk hR K hK
          have k57 : a.tmps[57]?.getD undef = .string s := hR 4 (by kernel_rfl)
          refine ite_yes rfl ?_
          go_simp
          exact hK _ _ (Below.refl _ _) rfl
        · intro a w' hle hk hR K hK
          have k58 : a.tmps[58]?.getD undef = .int .u8 x2 := hR 5 (by kernel_rfl)
          refine ite_yes rfl ?_
          go_simp
          exact hK _ _ (Below.refl _ _) rfl
        · intro a w' hle hk hR K hK
          have k56 : a.tmps[56]?.getD undef = .int .i64 ((x1 : Int) * 256) := hR 3 (by kernel_rfl)
          have k59 : a.tmps[59]?.getD undef = .int .i64 x2 := hR 6 (by kernel_rfl)
          refine ite_yes rfl ?_
          go_simp
          exact hK _ _ (Below.refl _ _) rfl
        · intro a w' hle hk hR K hK
          have k8 : a.tmps[8]?.getD undef = .string s := hk 8 (by kernel_rfl)
          refine ite_yes rfl ?_
          go_simp
          exact hK _ _ (Below.refl _ _) rfl
        · intro a w' hle hk hR K hK
          have k61 : a.tmps[61]?.getD undef = .string s := hR 8 (by kernel_rfl)
          refine ite_yes rfl ?_
          go_simp
          exact hK _ _ (Below.refl _ _) rfl
        · intro a w' hle hk hR K hK
          have k60 : a.tmps[60]?.getD undef = .int .i64 s.size := hR 7 (by kernel_rfl)
          have k62 : a.tmps[62]?.getD undef = .int .i64 s.size := hR 9 (by kernel_rfl)
          refine ite_yes rfl ?_
          go_simp
          exact hK _ _ (Below.refl _ _) rfl
        · intro a w' hle hk hR K hK
          have k63 : a.tmps[63]?.getD undef = .bool true := hR 10 (by kernel_rfl)
          refine ite_yes rfl ?_
          go_simp
          exact hK _ _ (Below.refl _ _) rfl
        · intro a w' hle hk hR K hK
          have k13 : a.tmps[13]?.getD undef = .int .i64 er := hk 13 (by kernel_rfl)
          refine ite_yes (wanted_of rfl (by kernel_rfl) (hR 11 (by kernel_rfl))) ?_
          go_simp
          exact hK _ _ (Below.refl _ _) rfl
        · intro a w' hle hk hR K hK
          have k65 : a.tmps[65]?.getD undef = .int .i64 er := hR 12 (by kernel_rfl)
          refine ite_yes (wanted_of rfl (by kernel_rfl) (hR 11 (by kernel_rfl))) ?_
          go_simp
          exact hK _ _ (Below.refl _ _) rfl
        · intro a w' hle hk hR K hK
          have k66 : a.tmps[66]?.getD undef = .bool true := hR 13 (by kernel_rfl)
          refine ite_yes (wanted_of rfl (by kernel_rfl) (hR 11 (by kernel_rfl))) ?_
          go_simp
          exact hK _ _ (Below.refl _ _) rfl
        · intro a w' hle hk hR K hK
          refine ite_no (unwanted_of rfl (by kernel_rfl) (hR 14 (by kernel_rfl))) ?_
          exact hK undef _ (Below.refl _ _) (fun h => by cases h)
        · intro a w' hle hk hR K hK
          refine ite_no (unwanted_of rfl (by kernel_rfl) (hR 14 (by kernel_rfl))) ?_
          exact hK undef _ (Below.refl _ _) (fun h => by cases h)
        · intro a w' hle hk hR K hK
          refine ite_no (unwanted_of rfl (by kernel_rfl) (hR 14 (by kernel_rfl))) ?_
          exact hK undef _ (Below.refl _ _) (fun h => by cases h)
        · intro a w' hle hk hR K hK
          refine ite_no (unwanted_of rfl (by kernel_rfl) (hR 14 (by kernel_rfl))) ?_
          exact hK undef _ (Below.refl _ _) (fun h => by cases h)
        · intro a w' hle hk hR K hK
          have k67 : a.tmps[67]?.getD undef = .bool true := hR 14 (by kernel_rfl)
          refine ite_yes (wanted_of rfl (by kernel_rfl) (hR 11 (by kernel_rfl))) ?_
          go_simp
          exact hK _ _ (Below.refl _ _) rfl
        · intro a w' hle hk hR K hK
          have k64 : a.tmps[64]?.getD undef = .bool true := hR 11 (by kernel_rfl)
          have k72 : a.tmps[72]?.getD undef = .bool true := hR 19 (by kernel_rfl)
          refine ite_yes rfl ?_
          go_simp
          exact hK _ _ (Below.refl _ _) rfl
        · intro a w' hle hk hR K hK
          have k73 : a.tmps[73]?.getD undef = .bool true := hR 20 (by kernel_rfl)
          refine ite_yes rfl ?_
          go_simp
          exact hK _ _ (Below.refl _ _) rfl
        · intro a w' hle hk hR K hK
          have k13 : a.tmps[13]?.getD undef = .int .i64 er := hk 13 (by kernel_rfl)
          refine ite_yes (wanted_of rfl (by kernel_rfl) (hR 21 (by kernel_rfl))) ?_
          go_simp
          exact hK _ _ (Below.refl _ _) rfl
        · intro a w' hle hk hR K hK
          have k75 : a.tmps[75]?.getD undef = .int .i64 er := hR 22 (by kernel_rfl)
          refine ite_yes (wanted_of rfl (by kernel_rfl) (hR 21 (by kernel_rfl))) ?_
          go_simp
          exact hK _ _ (Below.refl _ _) rfl
        · intro a w' hle hk hR K hK
          have k76 : a.tmps[76]?.getD undef = .bool false := hR 23 (by kernel_rfl)
          refine ite_yes (wanted_of rfl (by kernel_rfl) (hR 21 (by kernel_rfl))) ?_
          go_simp
          exact hK _ _ (Below.refl _ _) rfl
        · intro a w' hle hk hR K hK
          have k12 : a.tmps[12]?.getD undef = .int .i64 n := hk 12 (by kernel_rfl)
          refine ite_yes (wanted_of rfl (by kernel_rfl) (hR 24 (by kernel_rfl))) ?_
          go_simp
          exact hK _ _ (Below.refl _ _) (fun _ => rfl)
        · intro a w' hle hk hR K hK
          refine ite_yes (wanted_of rfl (by kernel_rfl) (hR 24 (by kernel_rfl))) ?_
          have k78 : a.tmps[78]?.getD undef = .int .i64 n := hR 25 (by kernel_rfl) rfl
          go_simp
          exact hK _ _ (Below.refl _ _) (fun _ => rfl)
        · intro a w' hle hk hR K hK
          have k77 : a.tmps[77]?.getD undef = .bool false := hR 24 (by kernel_rfl)
          refine ite_yes (wanted_of rfl (by kernel_rfl) (hR 21 (by kernel_rfl))) ?_
          have k79 : a.tmps[79]?.getD undef = .bool true := hR 26 (by kernel_rfl) rfl
          go_simp
          exact hK _ _ (Below.refl _ _) rfl
        · intro a w' hle hk hR K hK
          have k74 : a.tmps[74]?.getD undef = .bool true := hR 21 (by kernel_rfl)
          have k80 : a.tmps[80]?.getD undef = .bool true := hR 27 (by kernel_rfl)
          refine ite_yes rfl ?_
          go_simp
          exact hK _ _ (Below.refl _ _) rfl
        · intro a w' hle hk hR K hK
          have k81 : a.tmps[81]?.getD undef = .bool true := hR 28 (by kernel_rfl)
          refine ite_yes rfl ?_
          go_simp
          exact hK _ _ (Below.refl _ _) rfl
      · intro f w' hle hR hN
        have f53 : f 53 = .string s := hR 0 53 (by kernel_rfl)
        have f54 : f 54 = .int .u8 x1 := hR 1 54 (by kernel_rfl)
        have f55 : f 55 = .int .i64 x1 := hR 2 55 (by kernel_rfl)
        have f56 : f 56 = .int .i64 ((x1 : Int) * 256) := hR 3 56 (by kernel_rfl)
        have f57 : f 57 = .string s := hR 4 57 (by kernel_rfl)
        have f58 : f 58 = .int .u8 x2 := hR 5 58 (by kernel_rfl)
        have f59 : f 59 = .int .i64 x2 := hR 6 59 (by kernel_rfl)
        have f60 : f 60 = .int .i64 s.size := hR 7 60 (by kernel_rfl)
        have f61 : f 61 = .string s := hR 8 61 (by kernel_rfl)
        have f62 : f 62 = .int .i64 s.size := hR 9 62 (by kernel_rfl)
        have f63 : f 63 = .bool true := hR 10 63 (by kernel_rfl)
        have f64 : f 64 = .bool true := hR 11 64 (by kernel_rfl)
        have f65 : f 65 = .int .i64 er := hR 12 65 (by kernel_rfl)
        have f66 : f 66 = .bool true := hR 13 66 (by kernel_rfl)
        have f67 : f 67 = .bool true := hR 14 67 (by kernel_rfl)
        have f72 : f 72 = .bool true := hR 19 72 (by kernel_rfl)
        have f73 : f 73 = .bool true := hR 20 73 (by kernel_rfl)
        have f74 : f 74 = .bool true := hR 21 74 (by kernel_rfl)
        have f75 : f 75 = .int .i64 er := hR 22 75 (by kernel_rfl)
        have f76 : f 76 = .bool false := hR 23 76 (by kernel_rfl)
        have f77 : f 77 = .bool false := hR 24 77 (by kernel_rfl)
        have f80 : f 80 = .bool true := hR 27 80 (by kernel_rfl)
        have f81 : f 81 = .bool true := hR 28 81 (by kernel_rfl)
        have f6 : f 6 = .bool true := hR 29 6 (by kernel_rfl)
        simp only [putAll, List.foldl_cons, List.foldl_nil, f53, f54, f55, f56, f57, f58, f59, f60, f61, f62, f63, f64, f65, f66, f67, f72, f73, f74, f75, f76, f77, f80, f81, f6, List.setIfInBounds_toArray, List.set_cons_succ, List.set_cons_zero]
        clear f53 f54 f55 f56 f57 f58 f59 f60 f61 f62 f63 f64 f65 f66 f67 f72 f73 f74 f75 f76 f77 f80 f81 f6
        go_wp2
        go_ret
        exact ⟨rfl, bstep HB8'.out hle⟩

end Go.Proofs.Ytnlpohcnlmdocaa
