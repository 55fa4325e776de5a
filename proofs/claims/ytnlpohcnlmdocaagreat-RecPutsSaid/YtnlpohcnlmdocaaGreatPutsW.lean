/- The law RecPuts: its walk. -/
import Derived.Test.YtnlpohcnlmdocaaGreatZLaw
import Derived.Test.YtnlpohcnlmdocaaGreatZGreats
import Derived.Test.YtnlpohcnlmdocaaGreatMsgR
import Derived.Test.YtnlpohcnlmdocaaGreatCopy2
import Derived.Test.YtnlpohcnlmdocaaGreatRRight
import Derived.Test.YtnlpohcnlmdocaaGreatRefPut
import Derived.Test.YtnlpohcnlmdocaaGreatPutW
import Derived.Test.YtnlpohcnlmdocaaGreatGetL
import Derived.Test.YtnlpohcnlmdocaaGreatNewW
import Derived.Laws.OwnMore
namespace Go.Proofs.YtnlpohcnlmdocaaGreat
open Go.RowKit Go.Shelf
set_option linter.unusedSimpArgs false
set_option linter.unusedVariables false

set_option maxRecDepth 100000 in
set_option maxHeartbeats 8000000 in
theorem put_none (m : Msg) (A : Option Addr) (c : Nat) (w : World) :
    Calls Tryz.prog 10 #[.pointer none, .agg #[.int .i64 m.kind, .int .i64 m.queue, .int .i64 m.due, .int .i64 m.retry, .int .i64 m.ref, .int .i64 m.born, .string m.topic, .string m.tag, .string m.body, .slice A m.keys.length c]] w fun e w' => e = .returned (.tuple #[.string ⟨#[]⟩, .int .i64 1]) ∧ Below w.heap.size w w' := by
  go_enter Tryz.func10, Tryz.ntmps10
  go_wp2
  go_ret2
  exact ⟨rfl, by repeat (first | exact Below.refl _ _ | apply balloc)⟩

theorem rPut_any (m : Msg) (A : Option Addr) (c : Nat) (w : World) (hl : Strs w A m.keys) (hr : rightM m = true) :
    Calls Tryz.prog 9 #[.agg #[.int .i64 m.kind, .int .i64 m.queue, .int .i64 m.due, .int .i64 m.retry, .int .i64 m.ref, .int .i64 m.born, .string m.topic, .string m.tag, .string m.body, .slice A m.keys.length c]] w fun e w' => e = .returned (.string (B ((putL m).getD []))) ∧ Below w.heap.size w w' := by
  rcases Bool.eq_false_or_eq_true (m.kind == 0) with hk | hk
  · obtain ⟨_, h⟩ := right_kinds hr
    have hk0 : m.kind = 0 := by simpa using hk
    have hf : fillM m = true := by
      rcases h with ⟨k, _⟩ | ⟨k, _⟩ | ⟨k, _⟩ | ⟨k, _⟩ | ⟨_, hf⟩
      · omega
      · omega
      · omega
      · omega
      · exact hf
    exact rPut_fill m A c w hr hk (fill_spec hf).1 ((congrArg L (fill_spec hf).2.1).trans (L_B _))
  · exact rPut_seal m A c w hl hr hk

def putsR (s : ByteArray) (mb xb : Nat) (m : Msg) (A A' : Option Addr) (c c' : Nat) : Nat → Value → World → Prop
  | 0, v, _ => v = .agg #[.int .i64 m.kind, .int .i64 m.queue, .int .i64 m.due, .int .i64 m.retry, .int .i64 m.ref, .int .i64 m.born, .string m.topic, .string m.tag, .string m.body, .slice A' m.keys.length c']
  | 1, v, _ => v = .agg #[.int .i64 m.kind, .int .i64 m.queue, .int .i64 m.due, .int .i64 m.retry, .int .i64 m.ref, .int .i64 m.born, .string m.topic, .string m.tag, .string m.body, .slice A m.keys.length c]
  | 2, v, _ => v = .bool true
  | 3, v, _ => v = .bool true
  | 4, v, _ => v = .agg #[.int .i64 m.kind, .int .i64 m.queue, .int .i64 m.due, .int .i64 m.retry, .int .i64 m.ref, .int .i64 m.born, .string m.topic, .string m.tag, .string m.body, .slice A' m.keys.length c']
  | 5, v, _ => v = .agg #[.int .i64 m.kind, .int .i64 m.queue, .int .i64 m.due, .int .i64 m.retry, .int .i64 m.ref, .int .i64 m.born, .string m.topic, .string m.tag, .string m.body, .slice A m.keys.length c]
  | 6, v, _ => v = .bool true
  | 7, v, _ => v = .bool true
  | 8, v, _ => v = .bool true
  | 9, v, _ => v = .int .i64 s.size
  | 10, v, _ => v = .string s
  | 11, v, _ => v = .int .i64 s.size
  | 12, v, _ => v = .bool true
  | 13, v, _ => v = .bool true
  | 14, v, _ => v = .bool true
  | 15, v, _ => v = .int .i64 0
  | 16, v, _ => v = .bool true
  | 17, v, _ => v = .bool true
  | 18, v, _ => v = .bool true
  | 19, v, _ => v = .int .i64 1
  | 20, v, _ => v = .bool true
  | 21, v, _ => v = .bool true
  | 22, v, _ => v = .bool true
  | 23, v, _ => v = .agg #[.int .i64 m.kind, .int .i64 m.queue, .int .i64 m.due, .int .i64 m.retry, .int .i64 m.ref, .int .i64 m.born, .string m.topic, .string m.tag, .string m.body, .slice A m.keys.length c]
  | 24, v, w => ∃ A2 c2, v = .agg #[.int .i64 m.kind, .int .i64 m.queue, .int .i64 m.due, .int .i64 m.retry, .int .i64 m.ref, .int .i64 m.born, .string m.topic, .string m.tag, .string m.body, .slice A2 m.keys.length c2] ∧ Strs w A2 m.keys
  | 25, v, _ => v = .agg #[.int .i64 m.kind, .int .i64 m.queue, .int .i64 m.due, .int .i64 m.retry, .int .i64 m.ref, .int .i64 m.born, .string m.topic, .string m.tag, .string m.body, .slice A m.keys.length c]
  | 26, v, _ => v = .bool true
  | 27, v, _ => v = .bool true
  | 28, v, _ => v = .bool true
  | _, _, _ => True
theorem putsR_mono (s : ByteArray) (mb xb : Nat) (m : Msg) (A A' : Option Addr) (c c' : Nat) : ∀ i v w1 w2, Below w1.heap.size w1 w2 → putsR s mb xb m A A' c c' i v w1 → putsR s mb xb m A A' c c' i v w2 := by
  intro i v w1 w2 hle h
  match i with
  | 0 | 1 | 2 | 3 | 4 | 5 | 6 | 7 | 8 | 9 | 10 | 11 | 12 | 13 | 14 | 15 | 16 | 17 | 18 | 19 | 20 | 21 | 22 | 23 | 25 | 26 | 27 | 28 => exact h
  | 24 => obtain ⟨A2, c2, e, hS⟩ := h; exact ⟨A2, c2, e, hS.below hle⟩
  | _ + 29 => trivial

set_option maxRecDepth 100000 in
set_option maxHeartbeats 16000000 in
theorem puts_walk (m : Msg) (A : Option Addr) (c : Nat) (bh : ByteArray) (w : World) (hl : Strs w A m.keys) (hbz : bh.size ≤ 9223372036854775807) :
    Calls Tryz.prog 3 #[.agg #[.int .i64 m.kind, .int .i64 m.queue, .int .i64 m.due, .int .i64 m.retry, .int .i64 m.ref, .int .i64 m.born, .string m.topic, .string m.tag, .string m.body, .slice A m.keys.length c], .string bh] w fun e w' => e = .returned (.bool true) ∧ Below w.heap.size w w' := by
  have HL := Lib.hid hl
  clear hl
  have b0 := Blk.new w 24 #[.int .i64 m.kind, .int .i64 m.queue, .int .i64 m.due, .int .i64 m.retry, .int .i64 m.ref, .int .i64 m.born, .string m.topic, .string m.tag, .string m.body, .slice A m.keys.length c]
  have HB0 : Below w.heap.size w (w.alloc (.cells #[.int .i64 m.kind, .int .i64 m.queue, .int .i64 m.due, .int .i64 m.retry, .int .i64 m.ref, .int .i64 m.born, .string m.topic, .string m.tag, .string m.body, .slice A m.keys.length c] 24)) := balloc (Below.refl _ _)
  go_enter Tryz.func3, Tryz.ntmps3
  go_wp2_with fail
  refine (awake6_any _).mono ?_
  rintro e w1 ⟨rfl, hb1⟩
  have b1 := b0.later hb1
  have HB1 := bstep HB0 hb1
  clear b0 HB0 hb1
  have c1 := b1.cell
  go_wp2_with fail
  have bg := Blk.new w1 24 #[.int .i64 m.kind, .int .i64 m.queue, .int .i64 m.due, .int .i64 m.retry, .int .i64 m.ref, .int .i64 m.born, .string m.topic, .string m.tag, .string m.body, .slice A m.keys.length c]
  have HBg := balloc (o := .cells #[.int .i64 m.kind, .int .i64 m.queue, .int .i64 m.due, .int .i64 m.retry, .int .i64 m.ref, .int .i64 m.born, .string m.topic, .string m.tag, .string m.body, .slice A m.keys.length c] 24) HB1
  have hGs := greats_any w1.heap.size 1 [(m, A, c)] (w1.alloc (.cells #[.int .i64 m.kind, .int .i64 m.queue, .int .i64 m.due, .int .i64 m.retry, .int .i64 m.ref, .int .i64 m.born, .string m.topic, .string m.tag, .string m.body, .slice A m.keys.length c] 24)) (by
    intro k hk
    match k, hk with
    | 0, _ =>
      refine ⟨fun i hi => ?_, HL.out.below HBg⟩
      rw [bg.cell]
      match i, hi with
      | 0, _ | 1, _ | 2, _ | 3, _ | 4, _ | 5, _ | 6, _ | 7, _ | 8, _ | 9, _ => rfl) (by simp) (by simp)
  refine (show Calls _ _ #[.slice _ 1 1] _ _ from hGs).mono ?_
  rintro e w2 ⟨rfl, hb2⟩
  have b2 := (b1.later (balloc (Below.refl _ _))).later hb2
  have HB2 := bstep HBg hb2
  clear b1 HB1 HBg hb2 c1 bg hGs
  rcases Bool.eq_false_or_eq_true (greats [(m, A, c)]) with hG | hG
  · rw [hG]
    go_wp2
    go_ret
    exact ⟨rfl, HB2⟩
  have hGG : greatM m = false := by
    unfold greats at hG
    simpa using hG
  rw [hG]
  obtain ⟨g1, g2, g3, g4, g5⟩ := great_spec hGG
  clear hG hGG
  rcases Bool.eq_false_or_eq_true (decide ((300 : Int) < (bh.size : Int))) with h3 | h3
  · go_wp2
    go_ret
    exact ⟨rfl, HB2⟩
  have h300 : bh.size ≤ 300 := by
    have : ¬ (300 : Int) < (bh.size : Int) := by simpa using h3
    omega
  go_wp2_with fail
  refine (new_any w2).mono ?_
  rintro e w3 ⟨rfl, hT, hb3⟩
  have b3 := b2.later hb3
  have HB3 := bstep HB2 hb3
  have HT := Lib.hid hT
  clear b2 HB2 hb3 hT
  obtain ⟨tb, htb⟩ : ∃ tb, w2.heap.size = tb := ⟨_, rfl⟩
  rw [htb] at HT ⊢
  clear htb
  have c3 := b3.cell
  go_wp2_with fail
  refine (rright_any m A c w3 (HL.out.below HB3) (fun s hs => by have := g5 s hs; omega) (by omega) (by omega) (by omega)).mono ?_
  rintro e w4 ⟨rfl, hb4⟩
  have b4 := b3.later hb4
  have HB4 := bstep HB3 hb4
  have HT4 := Lib.hid (HT.out.below hb4)
  clear b3 HB3 hb4 c3
  have c4 := b4.cell
  go_wp2_with fail
  refine (right_any m A c w4 (HL.out.below HB4) (by omega) (fun s hs => by have := g5 s hs; omega)).mono ?_
  rintro e w5 ⟨rfl, hb5⟩
  have b5 := b4.later hb5
  have HB5 := bstep HB4 hb5
  have HT5 := Lib.hid (HT4.out.below hb5)
  clear b4 HB4 hb5 c4
  have c5 := b5.cell
  rcases Bool.eq_false_or_eq_true (rightM m) with hr | hr
  rotate_left
  · have hP : putL m = none := by unfold putL; rw [if_neg (by simp [hr])]
    rw [hr]
    go_wp2_with fail
    refine (put_any' m A c tb w5 (HL.out.below HB5) (by omega) (fun s hs => by have := g5 s hs; omega) HT5.out).mono ?_
    rintro e w6 ⟨rfl, hb6⟩
    rw [← putV_no hP]
    have HB6 := bstep HB5 hb6
    clear hP
    go_wp2
    go_ret
    exact ⟨rfl, HB6⟩
  have HR := Lib.hid hr
  rw [hr]
  clear hr
  go_wp2_with fail
  refine (rPut_any m A c w5 (HL.out.below HB5) HR.out).mono ?_
  rintro e w6 ⟨rfl, hb6⟩
  have b6 := b5.later hb6
  have HB6 := bstep HB5 hb6
  have HT6 := Lib.hid (HT5.out.below hb6)
  clear b5 HB5 hb6 c5
  have c6 := b6.cell
  cases hP : putL m with
  | none =>
    have eB : B (([] : List UInt8)) = ⟨#[]⟩ := rfl
    rw [Option.getD_none, eB]
    have HP := Lib.hid hP
    clear hP
    go_wp2_with fail
    refine (put_any' m A c tb w6 (HL.out.below HB6) (by omega) (fun s hs => by have := g5 s hs; omega) HT6.out).mono ?_
    rintro e w7 ⟨rfl, hb7⟩
    rw [← putV_no HP.out]
    have HB7 := bstep HB6 hb7
    go_wp2
    go_ret
    exact ⟨rfl, HB7⟩
  | some p =>
    obtain ⟨hp3, hpl⟩ := putL_len hP
    rw [Option.getD_some]
    obtain ⟨s, hs⟩ : ∃ s : ByteArray, B p = s := ⟨_, rfl⟩
    have hsz : s.size = p.length := by rw [← hs, B_size]
    have hLs : L s = p := by rw [← hs]; exact L_B p
    have HG := Lib.hid (show getL (L (s ++ bh)) = (0, s.size, m) by rw [L_app, hLs, hsz]; exact get_put hP)
    have HV := Lib.hid (show putV m = Value.tuple #[.string s, .int .i64 0] by rw [← hs]; exact (putV_yes hP).symm)
    rw [hs]
    have hs3 : 3 ≤ s.size := by omega
    have hs21 : s.size ≤ 2100 := by omega
    have hne : (s.toList == (⟨#[]⟩ : ByteArray).toList) = false := by
      rw [beq_eq_false_iff_ne]
      intro e
      have := congrArg List.length e
      rw [L_of, L_of, L_len, L_len] at this
      have h0 : (⟨#[]⟩ : ByteArray).size = 0 := rfl
      omega
    have hne2 : s.toList.isEmpty = false := by rw [empty_iff]; exact hne
    have hcat : s.size + bh.size ≤ 9223372036854775807 := by omega
    have hzz : (s ++ bh).size ≤ 140737488355328 := by
      rw [ByteArray.size_append]
      omega
    clear hs hsz hLs hp3 hpl hP
    go_wp2_with fail
    refine (put_any' m A c tb w6 (HL.out.below HB6) (by omega) (fun s hs => by have := g5 s hs; omega) HT6.out).mono ?_
    rintro e w7 ⟨rfl, hb7⟩
    rw [HV.out]
    have b7 := b6.later hb7
    have HB7 := bstep HB6 hb7
    have HT7 := Lib.hid (HT6.out.below hb7)
    clear b6 HB6 hb7 c6
    have c7 := b7.cell
    go_wp2_with fail
    refine (rGet_any tb (s ++ bh) _ hzz HT7.out).mono ?_
    rw [HG.out]
    rintro e w8 ⟨A', c', rfl, hS8, hb8⟩
    have b8 := b7.later hb8
    have HB8 := bstep HB7 hb8
    have HS8 := Lib.hid hS8
    clear b7 HB7 hb8 c7 hS8 hcat
    dsimp only
    unfold msgCells
    have bx := Blk.new w8 24 #[.int .i64 m.kind, .int .i64 m.queue, .int .i64 m.due, .int .i64 m.retry, .int .i64 m.ref, .int .i64 m.born, .string m.topic, .string m.tag, .string m.body, .slice A' m.keys.length c']
    have b9 := b8.later (balloc (o := .cells #[.int .i64 m.kind, .int .i64 m.queue, .int .i64 m.due, .int .i64 m.retry, .int .i64 m.ref, .int .i64 m.born, .string m.topic, .string m.tag, .string m.body, .slice A' m.keys.length c'] 24) (Below.refl _ _))
    have HB9 := balloc (o := .cells #[.int .i64 m.kind, .int .i64 m.queue, .int .i64 m.due, .int .i64 m.retry, .int .i64 m.ref, .int .i64 m.born, .string m.topic, .string m.tag, .string m.body, .slice A' m.keys.length c'] 24) HB8
    have HS9 := Lib.hid (HS8.out.below (balloc (o := .cells #[.int .i64 m.kind, .int .i64 m.queue, .int .i64 m.due, .int .i64 m.retry, .int .i64 m.ref, .int .i64 m.born, .string m.topic, .string m.tag, .string m.body, .slice A' m.keys.length c'] 24) (Below.refl _ _)))
    have c9 := b9.cell
    go_wp2_with fail
    refine (put_none m A c _).mono ?_
    rintro e w10 ⟨rfl, hb10⟩
    have bx' := Lib.hid (bx.later hb10)
    have bm' := Lib.hid (b9.later hb10)
    have HB10 := bstep HB9 hb10
    have HX' := Lib.hid (HS9.out.below hb10)
    have HM' := Lib.hid (HL.out.below HB10)
    have HB10' := Lib.hid HB10
    clear bx b9 HB9 HS9 c9 hb10 b8 HB8 HS8 HB10
    obtain ⟨xb, hxb⟩ : ∃ xb, w8.heap.size = xb := ⟨_, rfl⟩
    obtain ⟨mb, hmb⟩ : ∃ mb, w.heap.size = mb := ⟨_, rfl⟩
    rw [hxb] at bx' ⊢
    rw [hmb] at bm' ⊢
    clear hxb hmb
    have hkm : m.keys.length ≤ 9223372036854775806 := by omega
    have hk16 : m.keys.length * 16 ≤ 140737488355328 := by omega
    have HSm := Lib.hid (show sameM m m = true from (sameM_iff m m).2 rfl)
    go_wp2_with fail
    refine wp_region_put (by kernel_rfl) (fun a b => Below a.heap.size a b) (putsR s mb xb m A A' c c') (by kernel_rfl) ?_ ?_ ?_ ?_ ?_
    · exact bdrew (Below.refl _ _)
    · exact fun _ _ _ h1 h2 => bstep h1 h2
    · exact putsR_mono s mb xb m A A' c c'
    · refine ⟨?_, ?_, ?_, ?_, ?_, ?_, ?_, ?_, ?_, ?_, ?_, ?_, ?_, ?_, ?_, ?_, ?_, ?_, ?_, ?_, ?_, ?_, ?_, ?_, ?_, ?_, ?_, ?_, ?_, trivial⟩
      · intro a w' hle hk hR K hK
        have k10 : a.tmps[10]?.getD undef = .pointer (some ⟨xb, 0, none⟩) := hk 10 (by kernel_rfl)
        refine ite_yes rfl ?_
        have c0 := (bx'.out.later hle).cell
        go_simp
        exact hK _ _ (Below.refl _ _) rfl
      · intro a w' hle hk hR K hK
        have k2 : a.tmps[2]?.getD undef = .pointer (some ⟨mb, 0, none⟩) := hk 2 (by kernel_rfl)
        refine ite_yes rfl ?_
        have c0 := (bm'.out.later hle).cell
        go_simp
        exact hK _ _ (Below.refl _ _) rfl
      · intro a w' hle hk hR K hK
        have k75 : a.tmps[75]?.getD undef = .agg #[.int .i64 m.kind, .int .i64 m.queue, .int .i64 m.due, .int .i64 m.retry, .int .i64 m.ref, .int .i64 m.born, .string m.topic, .string m.tag, .string m.body, .slice A' m.keys.length c'] := hR 0 (by kernel_rfl)
        have k76 : a.tmps[76]?.getD undef = .agg #[.int .i64 m.kind, .int .i64 m.queue, .int .i64 m.due, .int .i64 m.retry, .int .i64 m.ref, .int .i64 m.born, .string m.topic, .string m.tag, .string m.body, .slice A m.keys.length c] := hR 1 (by kernel_rfl)
        refine ite_yes rfl ?_
        go_simp
        refine (rSame_any m m A' A c' c w' (HX'.out.below hle) (HM'.out.below hle) hkm hkm).mono ?_
        rintro e w'' ⟨rfl, hb⟩
        exact hK _ _ hb (by rw [HSm.out]; rfl)
      · intro a w' hle hk hR K hK
        have k77 : a.tmps[77]?.getD undef = .bool true := hR 2 (by kernel_rfl)
        refine ite_yes rfl ?_
        go_simp
        exact hK _ _ (Below.refl _ _) rfl
      · intro a w' hle hk hR K hK
        have k10 : a.tmps[10]?.getD undef = .pointer (some ⟨xb, 0, none⟩) := hk 10 (by kernel_rfl)
        refine ite_yes (wanted_of rfl (by kernel_rfl) (hR 3 (by kernel_rfl))) ?_
        have c0 := (bx'.out.later hle).cell
        go_simp
        exact hK _ _ (Below.refl _ _) rfl
      · intro a w' hle hk hR K hK
        have k2 : a.tmps[2]?.getD undef = .pointer (some ⟨mb, 0, none⟩) := hk 2 (by kernel_rfl)
        refine ite_yes (wanted_of rfl (by kernel_rfl) (hR 3 (by kernel_rfl))) ?_
        have c0 := (bm'.out.later hle).cell
        go_simp
        exact hK _ _ (Below.refl _ _) rfl
      · intro a w' hle hk hR K hK
        have k79 : a.tmps[79]?.getD undef = .agg #[.int .i64 m.kind, .int .i64 m.queue, .int .i64 m.due, .int .i64 m.retry, .int .i64 m.ref, .int .i64 m.born, .string m.topic, .string m.tag, .string m.body, .slice A' m.keys.length c'] := hR 4 (by kernel_rfl)
        have k80 : a.tmps[80]?.getD undef = .agg #[.int .i64 m.kind, .int .i64 m.queue, .int .i64 m.due, .int .i64 m.retry, .int .i64 m.ref, .int .i64 m.born, .string m.topic, .string m.tag, .string m.body, .slice A m.keys.length c] := hR 5 (by kernel_rfl)
        refine ite_yes (wanted_of rfl (by kernel_rfl) (hR 3 (by kernel_rfl))) ?_
        go_simp
        refine (same_any m m A' A c' c w' (HX'.out.below hle) (HM'.out.below hle) hkm hkm).mono ?_
        rintro e w'' ⟨rfl, hb⟩
        exact hK _ _ hb (by rw [HSm.out]; rfl)
      · intro a w' hle hk hR K hK
        have k78 : a.tmps[78]?.getD undef = .bool true := hR 3 (by kernel_rfl)
        have k81 : a.tmps[81]?.getD undef = .bool true := hR 6 (by kernel_rfl)
        refine ite_yes rfl ?_
        go_simp
        exact hK _ _ (Below.refl _ _) rfl
      · intro a w' hle hk hR K hK
        have k82 : a.tmps[82]?.getD undef = .bool true := hR 7 (by kernel_rfl)
        refine ite_yes rfl ?_
        go_simp
        exact hK _ _ (Below.refl _ _) rfl
      · intro a w' hle hk hR K hK
        have k11 : a.tmps[11]?.getD undef = .int .i64 s.size := hk 11 (by kernel_rfl)
        refine ite_yes (wanted_of rfl (by kernel_rfl) (hR 8 (by kernel_rfl))) ?_
        go_simp
        exact hK _ _ (Below.refl _ _) rfl
      · intro a w' hle hk hR K hK
        have k8 : a.tmps[8]?.getD undef = .string s := hk 8 (by kernel_rfl)
        refine ite_yes (wanted_of rfl (by kernel_rfl) (hR 8 (by kernel_rfl))) ?_
        go_simp
        exact hK _ _ (Below.refl _ _) rfl
      · intro a w' hle hk hR K hK
        have k85 : a.tmps[85]?.getD undef = .string s := hR 10 (by kernel_rfl)
        refine ite_yes (wanted_of rfl (by kernel_rfl) (hR 8 (by kernel_rfl))) ?_
        go_simp
        exact hK _ _ (Below.refl _ _) rfl
      · intro a w' hle hk hR K hK
        have k84 : a.tmps[84]?.getD undef = .int .i64 s.size := hR 9 (by kernel_rfl)
        have k86 : a.tmps[86]?.getD undef = .int .i64 s.size := hR 11 (by kernel_rfl)
        refine ite_yes (wanted_of rfl (by kernel_rfl) (hR 8 (by kernel_rfl))) ?_
        go_simp
        exact hK _ _ (Below.refl _ _) rfl
      · intro a w' hle hk hR K hK
        have k83 : a.tmps[83]?.getD undef = .bool true := hR 8 (by kernel_rfl)
        have k87 : a.tmps[87]?.getD undef = .bool true := hR 12 (by kernel_rfl)
        refine ite_yes rfl ?_
        go_simp
        exact hK _ _ (Below.refl _ _) rfl
      · intro a w' hle hk hR K hK
        have k88 : a.tmps[88]?.getD undef = .bool true := hR 13 (by kernel_rfl)
        refine ite_yes rfl ?_
        go_simp
        exact hK _ _ (Below.refl _ _) rfl
      · intro a w' hle hk hR K hK
        have k12 : a.tmps[12]?.getD undef = .int .i64 0 := hk 12 (by kernel_rfl)
        refine ite_yes (wanted_of rfl (by kernel_rfl) (hR 14 (by kernel_rfl))) ?_
        go_simp
        exact hK _ _ (Below.refl _ _) rfl
      · intro a w' hle hk hR K hK
        have k90 : a.tmps[90]?.getD undef = .int .i64 0 := hR 15 (by kernel_rfl)
        refine ite_yes (wanted_of rfl (by kernel_rfl) (hR 14 (by kernel_rfl))) ?_
        go_simp
        exact hK _ _ (Below.refl _ _) rfl
      · intro a w' hle hk hR K hK
        have k89 : a.tmps[89]?.getD undef = .bool true := hR 14 (by kernel_rfl)
        have k91 : a.tmps[91]?.getD undef = .bool true := hR 16 (by kernel_rfl)
        refine ite_yes rfl ?_
        go_simp
        exact hK _ _ (Below.refl _ _) rfl
      · intro a w' hle hk hR K hK
        have k92 : a.tmps[92]?.getD undef = .bool true := hR 17 (by kernel_rfl)
        refine ite_yes rfl ?_
        go_simp
        exact hK _ _ (Below.refl _ _) rfl
      · intro a w' hle hk hR K hK
        have k14 : a.tmps[14]?.getD undef = .int .i64 1 := hk 14 (by kernel_rfl)
        refine ite_yes (wanted_of rfl (by kernel_rfl) (hR 18 (by kernel_rfl))) ?_
        go_simp
        exact hK _ _ (Below.refl _ _) rfl
      · intro a w' hle hk hR K hK
        have k94 : a.tmps[94]?.getD undef = .int .i64 1 := hR 19 (by kernel_rfl)
        refine ite_yes (wanted_of rfl (by kernel_rfl) (hR 18 (by kernel_rfl))) ?_
        go_simp
        exact hK _ _ (Below.refl _ _) rfl
      · intro a w' hle hk hR K hK
        have k93 : a.tmps[93]?.getD undef = .bool true := hR 18 (by kernel_rfl)
        have k95 : a.tmps[95]?.getD undef = .bool true := hR 20 (by kernel_rfl)
        refine ite_yes rfl ?_
        go_simp
        exact hK _ _ (Below.refl _ _) rfl
      · intro a w' hle hk hR K hK
        have k96 : a.tmps[96]?.getD undef = .bool true := hR 21 (by kernel_rfl)
        refine ite_yes rfl ?_
        go_simp
        exact hK _ _ (Below.refl _ _) rfl
      · intro a w' hle hk hR K hK
        have k2 : a.tmps[2]?.getD undef = .pointer (some ⟨mb, 0, none⟩) := hk 2 (by kernel_rfl)
        refine ite_yes (wanted_of rfl (by kernel_rfl) (hR 22 (by kernel_rfl))) ?_
        have c0 := (bm'.out.later hle).cell
        go_simp
        exact hK _ _ (Below.refl _ _) rfl
      · intro a w' hle hk hR K hK
        have k98 : a.tmps[98]?.getD undef = .agg #[.int .i64 m.kind, .int .i64 m.queue, .int .i64 m.due, .int .i64 m.retry, .int .i64 m.ref, .int .i64 m.born, .string m.topic, .string m.tag, .string m.body, .slice A m.keys.length c] := hR 23 (by kernel_rfl)
        refine ite_yes (wanted_of rfl (by kernel_rfl) (hR 22 (by kernel_rfl))) ?_
        go_simp
        refine (copy_any m A c w' (HM'.out.below hle) hk16).mono ?_
        rintro e w'' ⟨⟨v, rfl, A2, c2, rfl, hcc, hrow⟩, hb⟩
        exact hK _ _ hb ⟨A2, c2, rfl, Strs.of_row hrow⟩
      · intro a w' hle hk hR K hK
        have k2 : a.tmps[2]?.getD undef = .pointer (some ⟨mb, 0, none⟩) := hk 2 (by kernel_rfl)
        refine ite_yes (wanted_of rfl (by kernel_rfl) (hR 22 (by kernel_rfl))) ?_
        have c0 := (bm'.out.later hle).cell
        go_simp
        exact hK _ _ (Below.refl _ _) rfl
      · intro a w' hle hk hR K hK
        have k100 : a.tmps[100]?.getD undef = .agg #[.int .i64 m.kind, .int .i64 m.queue, .int .i64 m.due, .int .i64 m.retry, .int .i64 m.ref, .int .i64 m.born, .string m.topic, .string m.tag, .string m.body, .slice A m.keys.length c] := hR 25 (by kernel_rfl)
        refine ite_yes (wanted_of rfl (by kernel_rfl) (hR 22 (by kernel_rfl))) ?_
        obtain ⟨A2, c2, e99, hS2⟩ := hR 24 (by kernel_rfl)
        replace e99 : a.tmps[99]?.getD undef = .agg #[.int .i64 m.kind, .int .i64 m.queue, .int .i64 m.due, .int .i64 m.retry, .int .i64 m.ref, .int .i64 m.born, .string m.topic, .string m.tag, .string m.body, .slice A2 m.keys.length c2] := e99
        have HS2 := Lib.hid hS2
        clear hS2
        go_simp
        refine (same_any m m A2 A c2 c w' HS2.out (HM'.out.below hle) hkm hkm).mono ?_
        rintro e w'' ⟨rfl, hb⟩
        exact hK _ _ hb (by rw [HSm.out]; rfl)
      · intro a w' hle hk hR K hK
        have k97 : a.tmps[97]?.getD undef = .bool true := hR 22 (by kernel_rfl)
        have k101 : a.tmps[101]?.getD undef = .bool true := hR 26 (by kernel_rfl)
        refine ite_yes rfl ?_
        go_simp
        exact hK _ _ (Below.refl _ _) rfl
      · intro a w' hle hk hR K hK
        have k102 : a.tmps[102]?.getD undef = .bool true := hR 27 (by kernel_rfl)
        refine ite_yes rfl ?_
        go_simp
        exact hK _ _ (Below.refl _ _) rfl
    · intro f w' hle hR hN
      have f75 : f 75 = .agg #[.int .i64 m.kind, .int .i64 m.queue, .int .i64 m.due, .int .i64 m.retry, .int .i64 m.ref, .int .i64 m.born, .string m.topic, .string m.tag, .string m.body, .slice A' m.keys.length c'] := hR 0 75 (by kernel_rfl)
      have f76 : f 76 = .agg #[.int .i64 m.kind, .int .i64 m.queue, .int .i64 m.due, .int .i64 m.retry, .int .i64 m.ref, .int .i64 m.born, .string m.topic, .string m.tag, .string m.body, .slice A m.keys.length c] := hR 1 76 (by kernel_rfl)
      have f77 : f 77 = .bool true := hR 2 77 (by kernel_rfl)
      have f78 : f 78 = .bool true := hR 3 78 (by kernel_rfl)
      have f79 : f 79 = .agg #[.int .i64 m.kind, .int .i64 m.queue, .int .i64 m.due, .int .i64 m.retry, .int .i64 m.ref, .int .i64 m.born, .string m.topic, .string m.tag, .string m.body, .slice A' m.keys.length c'] := hR 4 79 (by kernel_rfl)
      have f80 : f 80 = .agg #[.int .i64 m.kind, .int .i64 m.queue, .int .i64 m.due, .int .i64 m.retry, .int .i64 m.ref, .int .i64 m.born, .string m.topic, .string m.tag, .string m.body, .slice A m.keys.length c] := hR 5 80 (by kernel_rfl)
      have f81 : f 81 = .bool true := hR 6 81 (by kernel_rfl)
      have f82 : f 82 = .bool true := hR 7 82 (by kernel_rfl)
      have f83 : f 83 = .bool true := hR 8 83 (by kernel_rfl)
      have f84 : f 84 = .int .i64 s.size := hR 9 84 (by kernel_rfl)
      have f85 : f 85 = .string s := hR 10 85 (by kernel_rfl)
      have f86 : f 86 = .int .i64 s.size := hR 11 86 (by kernel_rfl)
      have f87 : f 87 = .bool true := hR 12 87 (by kernel_rfl)
      have f88 : f 88 = .bool true := hR 13 88 (by kernel_rfl)
      have f89 : f 89 = .bool true := hR 14 89 (by kernel_rfl)
      have f90 : f 90 = .int .i64 0 := hR 15 90 (by kernel_rfl)
      have f91 : f 91 = .bool true := hR 16 91 (by kernel_rfl)
      have f92 : f 92 = .bool true := hR 17 92 (by kernel_rfl)
      have f93 : f 93 = .bool true := hR 18 93 (by kernel_rfl)
      have f94 : f 94 = .int .i64 1 := hR 19 94 (by kernel_rfl)
      have f95 : f 95 = .bool true := hR 20 95 (by kernel_rfl)
      have f96 : f 96 = .bool true := hR 21 96 (by kernel_rfl)
      have f97 : f 97 = .bool true := hR 22 97 (by kernel_rfl)
      have f98 : f 98 = .agg #[.int .i64 m.kind, .int .i64 m.queue, .int .i64 m.due, .int .i64 m.retry, .int .i64 m.ref, .int .i64 m.born, .string m.topic, .string m.tag, .string m.body, .slice A m.keys.length c] := hR 23 98 (by kernel_rfl)
      have f100 : f 100 = .agg #[.int .i64 m.kind, .int .i64 m.queue, .int .i64 m.due, .int .i64 m.retry, .int .i64 m.ref, .int .i64 m.born, .string m.topic, .string m.tag, .string m.body, .slice A m.keys.length c] := hR 25 100 (by kernel_rfl)
      have f101 : f 101 = .bool true := hR 26 101 (by kernel_rfl)
      have f102 : f 102 = .bool true := hR 27 102 (by kernel_rfl)
      have f4 : f 4 = .bool true := hR 28 4 (by kernel_rfl)
      simp only [putAll, List.foldl_cons, List.foldl_nil, f75, f76, f77, f78, f79, f80, f81, f82, f83, f84, f85, f86, f87, f88, f89, f90, f91, f92, f93, f94, f95, f96, f97, f98, f100, f101, f102, f4, List.setIfInBounds_toArray, List.set_cons_succ, List.set_cons_zero]
      clear f75 f76 f77 f78 f79 f80 f81 f82 f83 f84 f85 f86 f87 f88 f89 f90 f91 f92 f93 f94 f95 f96 f97 f98 f100 f101 f102 f4
      go_wp2
      go_ret
      exact ⟨rfl, bstep HB10'.out hle⟩

end Go.Proofs.YtnlpohcnlmdocaaGreat
