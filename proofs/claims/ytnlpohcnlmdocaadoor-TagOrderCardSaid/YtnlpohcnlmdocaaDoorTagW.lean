/- The law TagOrder: its walk. -/
import Derived.Test.YtnlpohcnlmdocaaDoorTagQ
import Derived.Test.YtnlpohcnlmdocaaDoorTag3
import Derived.Laws.OwnMore
namespace Go.Proofs.YtnlpohcnlmdocaaDoor
open Go.RowKit Go.Shelf
set_option linter.unusedSimpArgs false
set_option linter.unusedVariables false

theorem errT_rev (l : List ByteArray) : errT l.reverse = errT l := by
  unfold errT allB
  rw [List.all_reverse, List.length_reverse]
  by_cases h : l.Nodup
  · rw [if_pos ((List.reverse_perm l).nodup_iff.2 h), if_pos h]
  · rw [if_neg (fun e => h ((List.reverse_perm l).nodup_iff.1 e)), if_neg h]
theorem anyT_rev (p : ByteArray → Bool) (l : List ByteArray) : anyT p l.reverse = anyT p l := by
  unfold anyT
  rw [List.any_reverse, List.isEmpty_reverse]
theorem wants_rev (l : List ByteArray) (t : ByteArray) : wantsL l.reverse t = wantsL l t := anyT_rev _ l
theorem wants_more {l : List ByteArray} {t m : ByteArray} (h : wantsL l t = true) (hne : l ≠ []) : wantsL (l ++ [m]) t = true := by
  unfold wantsL anyT at *
  rw [List.any_append]
  cases l with
  | nil => exact absurd rfl hne
  | cons x l =>
    simp only [List.isEmpty_cons, Bool.false_or] at h
    rw [h]; simp
theorem ownq_slice {w : World} {b0 : Nat} {e : TypeId} {v : Value} {n : Nat} {xs : List Value} (h : w.ownsRow b0 e 1 v n xs) : ∃ A c, v = .slice A n c := by
  rcases h.2 with ⟨e1, hz⟩ | ⟨g, cap, cur, hv, _⟩
  · exact ⟨none, 0, by rw [e1, hz]⟩
  · exact ⟨_, _, hv⟩
/-- The list from its end on, k of it. -/
def backL (l : List ByteArray) (k : Nat) : List Value := (l.reverse.take k).map Value.string
theorem rev_take {l : List ByteArray} {k j : Nat} (hk : k < l.length) (hj : l.length - 1 - k = j) (hjl : j < l.length) : backL l k ++ [.string l[j]] = backL l (k + 1) := by
  subst hj
  unfold backL
  rw [List.take_succ_eq_append_getElem (by rw [List.length_reverse]; exact hk), List.map_append, List.getElem_reverse]; rfl
/-- append of a list to an empty one of one's own. -/
theorem app_any (w : World) (base : Nat) (v : Value) (A : Option Addr) (c : Nat) (l : List ByteArray) (hv : w.ownsRow base 9 1 v 0 []) (hl : Strs w A l) (hA : l = [] → A = none → c = 0) (hn : l.length ≤ 20) (hb : base ≤ w.heap.size) :
    ∃ v' w', (Builtin.append_ #[22, 22] 22 #[v, .slice A l.length c]).run Tryd.prog w = .ok v' w' ∧ w'.ownsRow base 9 1 v' l.length (l.map Value.string) ∧ Below base w w' := by
  obtain ⟨i0, hi, hz0, hz1, hz2⟩ := info_parts (P := Tryd.prog) (e := 9) (z := .string ByteArray.empty) (size := 1) (bytes := 16) (by kernel_rfl)
  have main : ∀ ad, A = some ad → (∀ j (h : j < l.length), w.cell? (ad.add j) = some (.string l[j])) → ∃ v' w', (Builtin.append_ #[22, 22] 22 #[v, .slice A l.length c]).run Tryd.prog w = .ok v' w' ∧ w'.ownsRow base 9 1 v' l.length (l.map Value.string) ∧ Below base w w' := by
    intro ad hA hc
    obtain ⟨v', w', hr, h2, h3, h4⟩ := run_append_own (P := Tryd.prog) w base 22 22 9 i0 (.string ByteArray.empty) 1 16 Tryd.underlying22 hi hz0 hz1 hz2 rfl (by decide) v 0 [] hv ad l.length c (l.map Value.string) (by simp) (fun j u hj => by
      rw [List.getElem?_map] at hj
      obtain ⟨x, hx, rfl⟩ := Option.map_eq_some_iff.1 hj
      obtain ⟨hjl, rfl⟩ := List.getElem?_eq_some_iff.1 hx
      exact hc j hjl) (fun u hu => by obtain ⟨x, _, rfl⟩ := List.mem_map.1 hu; rfl) (by unfold maxLen; omega) (by omega) hb
    rw [Nat.zero_add, List.nil_append] at h2
    rw [hA]
    refine ⟨v', w', hr, h2, h3.os, h3.tape, h3.output, h3.size, fun k hk => h3.block k (by omega) fun e => ?_⟩
    have := (hv.lt k e.symm).1; omega
  cases A with
  | none =>
    have hl0 : l = [] := Classical.byContradiction fun h => by obtain ⟨b, o, e, _⟩ := hl h; cases e
    obtain rfl := hA hl0 rfl
    subst hl0
    exact ⟨v, w, run_append_owned_none (P := Tryd.prog) w base 22 22 9 i0 1 Tryd.underlying22 hi v 0 [] hv, hv, Below.refl _ _⟩
  | some ad =>
    refine main ad rfl fun j hj => ?_
    obtain ⟨b, o, e, hc⟩ := hl (by intro h; subst h; simp at hj)
    cases e
    have e2 : (Addr.mk b o none).add j = ⟨b, o + j, none⟩ := by
      unfold Addr.add; split
      · rename_i h; subst h; rfl
      · rfl
    rw [e2]; exact hc j hj

theorem wpList_append_run {P : Program} {ops : Array Oper} {rest : List Oper} {o : Oper} {a : Act} {w : World} {Q : Exit → Act → World → Prop} (hgd : o.guard = none) (s x : Operand) (t : TypeId)
    (ho : o.op = .call { callee := .builtin .append, args := #[s, x], argTypes := #[t, t] }) (v xv v' : Value) (w' : World) (hs : a.eval s = v) (hx : a.eval x = xv)
    (hr : (Builtin.append_ #[t, t] o.type #[v, xv]).run P w = .ok v' w') (h : wpList P ops Q rest (a.put o.dst v') w') : wpList P ops Q (o :: rest) a w := by
  refine wpList_plain hgd fun K hK => ?_
  unfold Oper.wp execOp
  simp only [ho, resolve, invoke, builtin, Sem.run_bind, Sem.run_pure, Result.andThen_ok, List.map_toArray, List.map_cons, List.map_nil, hs, hx, hr]
  exact hK _ _ h

set_option maxRecDepth 100000 in
set_option maxHeartbeats 8000000 in
theorem order_walk (A : Option Addr) (c : Nat) (l : List ByteArray) (more asked : ByteArray) (w : World) (hl : Strs w A l) (hA : l = [] → A = none → c = 0) (hs : ∀ x ∈ l, x.size ≤ 9223372036854775807) (hz1 : more.size ≤ 9223372036854775807) (hz2 : asked.size ≤ 9223372036854775807) (hm : MaxAt w) :
    Calls Tryd.prog 3 #[.slice A l.length c, .string more, .string asked] w fun e w' => e = .returned (.bool true) ∧ Below w.heap.size w w' := by
  have HM := Lib.hid hm
  have HL := Lib.hid hl
  have HS := Lib.hid hs
  have HA := Lib.hid hA
  clear hm hl hs hA
  obtain ⟨i0, hi, hz0, hz3, hz4⟩ := info_parts (P := Tryd.prog) (e := 9) (z := .string ByteArray.empty) (size := 1) (bytes := 16) (by kernel_rfl)
  go_enter Tryd.func3, Tryd.ntmps3
  go_wp2_with fail
  refine (awake9_any w HM.out).mono ?_
  rintro e w1 ⟨rfl, hb1⟩
  rcases Bool.eq_false_or_eq_true (decide ((20 : Int) < (l.length : Int))) with h3 | h3
  · go_wp2
    go_ret
    exact ⟨rfl, hb1⟩
  rcases Bool.eq_false_or_eq_true (decide ((100 : Int) < (more.size : Int))) with h4 | h4
  · go_wp2
    go_ret
    exact ⟨rfl, hb1⟩
  rcases Bool.eq_false_or_eq_true (decide ((100 : Int) < (asked.size : Int))) with h5 | h5
  · go_wp2
    go_ret
    exact ⟨rfl, hb1⟩
  have hn20 : l.length ≤ 20 := by have := of_decide_eq_false h3; omega
  have HB1 := Lib.hid hb1
  clear hb1
  go_wp2
  go_loopw [7, 32] (fun v i wr => ∃ k : Nat, k ≤ l.length ∧ i = .int .i64 k ∧ Hid (wr.ownsRow w.heap.size 9 1 v k (backL l k)) ∧ Hid (Below w.heap.size w wr)) (fun _ i _ => l.length - (intOf i).toNat)
  case atStart => exact ⟨0, Nat.zero_le _, rfl, World.ownsRow_nil _ _ _ _, HB1⟩
  case round =>
    obtain ⟨k, hk, rfl, HO, HB⟩ := hrel
    by_cases hlt : k < l.length
    · obtain ⟨b, o, rfl, hc⟩ := (HL.out.below HB.out) (by intro e; subst e; simp at hlt)
      have hck := hc k hlt
      obtain ⟨j, hj⟩ : ∃ j, l.length - 1 - k = j := ⟨_, rfl⟩
      have hjl : j < l.length := by omega
      have hcj := hc j hjl
      have HT := Lib.hid (rev_take hlt hj hjl)
      have hix : (l.length : Int) - 1 - (k : Int) = (j : Int) := by omega
      have hj0 : (0 : Int) ≤ (j : Int) := by omega
      have hj1 : (j : Int) < (l.length : Int) := by omega
      obtain ⟨x, hx⟩ : ∃ x, l[k] = x := ⟨_, rfl⟩
      rw [hx] at hck
      obtain ⟨y, hy⟩ : ∃ y, l[j] = y := ⟨_, rfl⟩
      rw [hy] at hcj HT
      clear hc hx hy hj
      rcases Bool.eq_false_or_eq_true (decide ((100 : Int) < (x.size : Int))) with h6 | h6
      · go_wp2
        go_ret
        exact ⟨rfl, HB.out⟩
      · go_wp2_with (at_builtin; refine wpList_append_own _ rfl _ _ 22 rfl w.heap.size 9 i0 (.string ByteArray.empty) 1 16 Tryd.underlying22 hi hz0 hz3 hz4 rfl (by decide) _ _ _ rfl (HO.out.alloc _) ⟨wr.heap.size, 0, none⟩ 1 1 [.string y] rfl rfl ?c1 ?c2 ?c3 ?c4 ?c5 ?_)
        case c1 => intro j u hj; match j with
          | 0 => simp at hj; subst hj; simp [Addr.add]
          | j + 1 => simp at hj
        case c2 => simp [Value.oneCell']
        case c3 => unfold maxLen; omega
        case c4 => omega
        case c5 => have := HB.out.size; simp; omega
        intro v5 w5 HO5 hg5 _
        have HO5' : Hid (w5.ownsRow w.heap.size 9 1 v5 (k + 1) (backL l (k + 1))) := by
          show World.ownsRow _ _ _ _ _ _ _
          rw [← HT.out]; exact HO5
        have hlt5 := HO.out.lt
        have HB5 : Hid (Below w.heap.size w w5) := by
          show Below _ _ _
          have hA := balloc (o := .cells #[.string y] 9) HB.out
          exact ⟨hg5.os.trans hA.os, hg5.tape.trans hA.tape, hg5.output.trans hA.output, Nat.le_trans hA.size hg5.size, fun k' hk' => (hg5.block k' (by have := hA.size; omega) (fun e => by have := (hlt5 k' e.symm).1; omega)).trans (hA.block k' hk')⟩
        go_wp2
        go_roundw
        case rel => exact ⟨k + 1, by omega, by go_num, HO5', HB5⟩
        case measure => simp [intOf]; omega
    · obtain rfl : k = l.length := by omega
      have hbl : backL l l.length = l.reverse.map Value.string := by unfold backL; rw [List.take_of_length_le (by rw [List.length_reverse]; exact Nat.le_refl _)]
      rw [hbl] at HO
      clear hbl
      obtain ⟨A7, c7, rfl⟩ := ownq_slice HO.out
      have HR := Lib.hid (Strs.of_row HO.out)
      clear hk hlt
      have hN1 := newT_any A c l wr (HL.out.below HB.out) (by omega)
      go_wp2_with fail
      refine hN1.mono ?_
      rintro e w2 ⟨hf, hb2⟩
      have HB2 := Lib.hid (bstep HB.out hb2)
      have hN2 := newT_any A7 c7 l.reverse w2 (HR.out.below hb2) (by rw [List.length_reverse]; omega)
      rw [List.length_reverse] at hN2
      clear hN1
      rcases hf with ⟨h0, rfl⟩ | ⟨h0, g1, rfl, hF1⟩
      · have h0r : errT l.reverse ≠ 0 := by rw [errT_rev]; exact h0
        have hrr := errT_rev l
        obtain ⟨kk, hkk⟩ : ∃ kk, errT l = kk := ⟨_, rfl⟩
        rw [hkk] at h0 ⊢
        have hkb : (kk != 0) = true := by rw [bne_iff_ne]; exact h0
        have hkc : (kk == 0) = false := by rw [beq_eq_false_iff_ne]; exact h0
        rw [hkk] at hrr
        have HRR := Lib.hid hrr
        have HN2 := Lib.hid hN2
        clear hN2 hrr h0r hkk h0
        go_wp2_with fail
        refine HN2.out.mono ?_
        rintro e w3 ⟨⟨_, rfl⟩ | ⟨hz, _⟩, hb3⟩
        · rw [HRR.out]
          have HB3 := bstep HB2.out hb3
          go_wp2
          go_ret
          exact ⟨rfl, HB3⟩
        · exfalso
          rw [HRR.out] at hz; subst hz; cases hkb
      · have HF1 := Lib.hid hF1
        have HN2 := Lib.hid hN2
        have H0 := Lib.hid h0
        clear hF1 hN2 h0
        go_wp2_with fail
        refine HN2.out.mono ?_
        rintro e w3 ⟨⟨hz, _⟩ | ⟨_, g2, rfl, hF2⟩, hb3⟩
        · exfalso
          rw [errT_rev] at hz; exact hz H0.out
        have HB3 := Lib.hid (bstep HB2.out hb3)
        have HF1 := Lib.hid (HF1.out.below hb3)
        have HF2 := Lib.hid hF2
        clear hF2 hb3 hb2 HN2
        obtain ⟨b1, hb1⟩ : ∃ b1, wantsL l asked = b1 := ⟨_, rfl⟩
        have HW := Lib.hid hb1
        go_wp2_with fail
        refine (wants_any g1 l asked w3 HF1.out (by omega)).mono ?_
        rintro e w4 ⟨rfl, hb4⟩
        rw [hb1]
        have HB4 := Lib.hid (bstep HB3.out hb4)
        have HF1 := Lib.hid (HF1.out.below hb4)
        have HF2 := Lib.hid (HF2.out.below hb4)
        clear hb4 hb1
        go_wp2_with fail
        refine (wants_any g2 l.reverse asked w4 HF2.out (by rw [List.length_reverse]; omega)).mono ?_
        rintro e w5 ⟨rfl, hb5⟩
        rw [wants_rev, HW.out]
        have HB5 := Lib.hid (bstep HB4.out hb5)
        have HF1 := Lib.hid (HF1.out.below hb5)
        have HF2 := Lib.hid (HF2.out.below hb5)
        clear hb5
        have hbb : (b1 != b1) = false := by cases b1 <;> rfl
        obtain ⟨q1, hq1⟩ : ∃ q1, anyT (quickP 7) l = q1 := ⟨_, rfl⟩
        have HQ := Lib.hid hq1
        clear hq1
        have hqq : (q1 != q1) = false := by cases q1 <;> rfl
        go_wp2_with fail
        refine (quick_any g1 l 7 w5 HF1.out (by omega) HS.out).mono ?_
        rintro e w6 ⟨rfl, hb6⟩
        rw [HQ.out]
        have HB6 := Lib.hid (bstep HB5.out hb6)
        have HF1 := Lib.hid (HF1.out.below hb6)
        have HF2 := Lib.hid (HF2.out.below hb6)
        clear hb6
        go_wp2_with fail
        refine (quick_any g2 l.reverse 7 w6 HF2.out (by rw [List.length_reverse]; omega) (fun x hx => HS.out x (List.mem_reverse.1 hx))).mono ?_
        rintro e w7 ⟨rfl, hb7⟩
        rw [anyT_rev, HQ.out]
        have HB7 := Lib.hid (bstep HB6.out hb7)
        have HF1 := Lib.hid (HF1.out.below hb7)
        clear hb7 HF2
        have hO7 : (w7.alloc (.cells #[] 9)).ownsRow w7.heap.size 9 1 (.slice (some ⟨w7.heap.size, 0, none⟩) 0 0) 0 [] := World.ownsRow_lit w7 #[] 0 (Nat.le_refl _) (by decide) rfl
        have hB7 := balloc (o := .cells #[] 9) (Below.refl w7.heap.size w7)
        obtain ⟨v8, w8, hr8, HO8, hb8⟩ := app_any (w7.alloc (.cells #[] 9)) w7.heap.size _ A c l hO7 (HL.out.below (bstep HB7.out hB7)) HA.out hn20 hB7.size
        have HB8 := Lib.hid (hB7.trans hb8)
        have HO8 := Lib.hid HO8
        have HMR := Lib.hid (show (l.map Value.string) ++ [Value.string more] = (l ++ [more]).map Value.string by rw [List.map_append]; rfl)
        have HLM := Lib.hid (show (l ++ [more]).length = l.length + 1 by simp)
        clear hO7 hb8 hB7
        go_wp2_with (first
          | (at_builtin; refine wpList_append_run rfl _ _ 22 rfl _ _ v8 w8 rfl rfl hr8 ?_)
          | (at_builtin; refine wpList_append_own _ rfl _ _ 22 rfl w7.heap.size 9 i0 (.string ByteArray.empty) 1 16 Tryd.underlying22 hi hz0 hz3 hz4 rfl (by decide) _ _ _ rfl (HO8.out.alloc _) ⟨w8.heap.size, 0, none⟩ 1 1 [.string more] rfl rfl ?c1 ?c2 ?c3 ?c4 ?c5 ?_))
        case c1 => intro j u hj; match j with
          | 0 => simp at hj; subst hj; simp [Addr.add]
          | j + 1 => simp at hj
        case c2 => simp [Value.oneCell']
        case c3 => unfold maxLen; omega
        case c4 => omega
        case c5 => have := HB8.out.size; simp; omega
        intro v9 w9 HO9 hg9 _
        rw [HMR.out] at HO9
        obtain ⟨A9, c9, rfl⟩ := ownq_slice HO9
        have HR9 := Lib.hid (Strs.of_row HO9)
        have hlt9 := HO8.out.lt
        have hB9 : Below w7.heap.size w7 w9 := by
          have hA := balloc (o := .cells #[.string more] 9) HB8.out
          exact ⟨hg9.os.trans hA.os, hg9.tape.trans hA.tape, hg9.output.trans hA.output, Nat.le_trans hA.size hg9.size, fun k' hk' => (hg9.block k' (by have := hA.size; omega) (fun e => by have := (hlt9 k' e.symm).1; omega)).trans (hA.block k' hk')⟩
        have HB9 := Lib.hid (bstep HB7.out hB9)
        have HF9 := Lib.hid (HF1.out.below hB9)
        have hN3 := newT_any A9 c9 (l ++ [more]) w9 HR9.out (by rw [HLM.out]; omega)
        rw [HLM.out] at hN3
        have HN3 := Lib.hid hN3
        clear hN3 HO9 hg9 hB9 hlt9 hr8
        go_wp2_with fail
        refine HN3.out.mono ?_
        rintro e w10 ⟨hx, hb10⟩
        have HB10 := Lib.hid (bstep HB9.out hb10)
        have HF10 := Lib.hid (HF9.out.below hb10)
        clear HN3
        rcases hx with ⟨hz, rfl⟩ | ⟨_, g3, rfl, hF3⟩
        · obtain ⟨kk, hkk⟩ : ∃ kk, errT (l ++ [more]) = kk := ⟨_, rfl⟩
          rw [hkk] at hz ⊢
          have hkb : (kk != 0) = true := by rw [bne_iff_ne]; exact hz
          have hkc : (kk == 0) = false := by rw [beq_eq_false_iff_ne]; exact hz
          clear hz hkk
          go_wp2
          go_ret
          exact ⟨rfl, HB10.out⟩
        have HF3 := Lib.hid hF3
        clear hF3
        by_cases hl0 : l.length = 0
        · have d0 : ((l.length : Int) == 0) = true := by rw [hl0]; rfl
          go_wp2
          go_ret
          exact ⟨rfl, HB10.out⟩
        have d0 : ((l.length : Int) == 0) = false := by rw [beq_eq_false_iff_ne]; omega
        have hne : l ≠ [] := fun e => hl0 (by rw [e]; rfl)
        have HNE := Lib.hid hne
        clear hl0 hne
        rcases Bool.eq_false_or_eq_true b1 with e1 | e1
        · subst e1
          go_wp2_with fail
          refine (wants_any g1 l asked w10 HF10.out (by omega)).mono ?_
          rintro e w11 ⟨rfl, hb11⟩
          rw [HW.out]
          have HB11 := Lib.hid (bstep HB10.out hb11)
          have HF3 := Lib.hid (HF3.out.below hb11)
          go_wp2_with fail
          refine (wants_any g3 (l ++ [more]) asked w11 HF3.out (by rw [HLM.out]; omega)).mono ?_
          rintro e w12 ⟨rfl, hb12⟩
          rw [wants_more HW.out HNE.out]
          have HB12 := bstep HB11.out hb12
          go_wp2
          go_ret
          exact ⟨rfl, HB12⟩
        · subst e1
          go_wp2_with fail
          refine (wants_any g1 l asked w10 HF10.out (by omega)).mono ?_
          rintro e w11 ⟨rfl, hb11⟩
          rw [HW.out]
          have HB11 := bstep HB10.out hb11
          go_wp2
          go_ret
          exact ⟨rfl, HB11⟩

end Go.Proofs.YtnlpohcnlmdocaaDoor
