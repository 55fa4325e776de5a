/- What reads bytes: octet.Reader's List. -/
import Derived.Test.YtnlpohcnlmdocaaGreatRead2
import Derived.Test.YtnlpohcnlmdocaaGreatCopy
namespace Go.Proofs.YtnlpohcnlmdocaaGreat
open Go.Shelf Go.RowKit
set_option linter.unusedVariables false
set_option linter.unusedSimpArgs false

theorem row_but {w w' : World} {b0 : Nat} {e : TypeId} {v : Value} {n : Nat} {xs : List Value} {g : Nat} {t : TypeId} {cs : Array Value} (h : w.ownsRow b0 e 1 v n xs) (hb : But g w w') (hg : Blk w g t cs) (hne : t ≠ e) : w'.ownsRow b0 e 1 v n xs := by
  refine ⟨h.1, ?_⟩
  rcases h.2 with h2 | ⟨k, cap, cur, hv, hbk, hh, r⟩
  · exact .inl h2
  · refine .inr ⟨k, cap, cur, hv, hbk, ?_, r⟩
    rw [hb.block k ?_]; · exact hh
    intro e1; subst e1
    unfold Blk at hg; rw [hh] at hg
    injection hg with h1; injection h1 with _ h3 _
    exact hne h3.symm
theorem row_bt {w w' : World} {b0 : Nat} {e : TypeId} {v : Value} {n : Nat} {xs : List Value} {g : Nat} {t : TypeId} {cs : Array Value} (h : w.ownsRow b0 e 1 v n xs) (hb : Bt g w w') (hg : Blk w g t cs) (hne : t ≠ e) : w'.ownsRow b0 e 1 v n xs := by
  refine ⟨h.1, ?_⟩
  rcases h.2 with h2 | ⟨k, cap, cur, hv, hbk, hh, r⟩
  · exact .inl h2
  · refine .inr ⟨k, cap, cur, hv, hbk, ?_, r⟩
    rw [hb.block k (Array.getElem?_eq_some_iff.1 hh).1 ?_]; · exact hh
    intro e1; subst e1
    unfold Blk at hg; rw [hh] at hg
    injection hg with h1; injection h1 with _ h3 _
    exact hne h3.symm
theorem own_slice {w : World} {b0 : Nat} {e : TypeId} {v : Value} {n : Nat} {xs : List Value} (h : w.ownsRow b0 e 1 v n xs) : ∃ A c, v = .slice A n c := by
  rcases h.2 with ⟨e1, hz⟩ | ⟨g, cap, cur, hv, _⟩
  · exact ⟨none, 0, by rw [e1, hz]⟩
  · exact ⟨_, _, hv⟩
theorem n_small {k n : Nat} (h : k < n) (hn : n ≤ 255) : k ≤ 254 := by omega
theorem numR_fail {n x : Nat} {st : RSt} (h : numR n st = (x, none)) : x = 0 := by
  obtain ⟨h1, h2⟩ := Prod.mk.inj h
  cases st with
  | none => rw [← h1]; rfl
  | some l =>
    rw [← h1]
    unfold takeR at h2 ⊢
    dsimp only at h2 ⊢
    split at h2
    · cases h2
    · rename_i hn; rw [if_neg hn]; rfl
def tailL (many most n : Nat) (st : RSt) : List (List UInt8) × RSt := match st with
  | none => ([], none)
  | some l => if many < n then ([], none) else match (textsR most n (some l)).2 with
    | none => ([], none)
    | some r => ((textsR most n (some l)).1, some r)
theorem listR_tail (many most : Nat) {n : Nat} {st st1 : RSt} (h : numR 1 st = (n, st1)) : listR many most st = tailL many most n st1 := by
  unfold listR tailL; rw [h]; cases st1 <;> rfl
theorem tailL_long {many most n : Nat} {l : List UInt8} (h : many < n) : tailL many most n (some l) = ([], none) := by unfold tailL; dsimp only; rw [if_pos h]
theorem tailL_fail {many most n : Nat} {l : List UInt8} (h : ¬ many < n) (h2 : (textsR most n (some l)).2 = none) : tailL many most n (some l) = ([], none) := by unfold tailL; dsimp only; rw [if_neg h, h2]
theorem tailL_yes {many most n : Nat} {l r : List UInt8} (h : ¬ many < n) (h2 : (textsR most n (some l)).2 = some r) : tailL many most n (some l) = ((textsR most n (some l)).1, some r) := by unfold tailL; dsimp only; rw [if_neg h, h2]

/-- A list that was read, and the reader behind it. -/
def ListPost (g : Nat) (w : World) (r : List (List UInt8) × RSt) (x : Ending) (w' : World) : Prop :=
  ∃ A c, x = .returned (.slice A r.1.length c) ∧ w'.ownsRow w.heap.size 9 1 (.slice A r.1.length c) r.1.length ((r.1.map B).map Value.string) ∧ RdIs w' g r.2 ∧ Bt g w w'
theorem listPost_none {g : Nat} {w w' : World} (h : RdIs w' g none) (hb : Bt g w w') : ListPost g w ([], none) (.returned (.slice none 0 0)) w' :=
  ⟨none, 0, rfl, World.ownsRow_nil _ _ _ _, h, hb⟩

set_option maxRecDepth 100000 in
set_option maxHeartbeats 8000000 in
theorem rList_any (many most : Nat) (g : Nat) (st : RSt) (w : World) (h : RdIs w g st) (hm : most ≤ 65535) (hmany : many ≤ 255) :
    Calls Tryz.prog 59 #[.pointer (some ⟨g, 0, none⟩), .int .i64 many, .int .i64 most] w (ListPost g w (listR many most st)) := by
  have hN := Lib.hid (rNum_read 1 g st w h (by omega) (by omega))
  obtain ⟨i0, hi, hz0, hz1, hz2⟩ := info_parts (P := Tryz.prog) (e := 9) (z := .string ByteArray.empty) (size := 1) (bytes := 16) (by kernel_rfl)
  have hgw := h.lt
  obtain ⟨s, e, hb, hs, hst⟩ := h
  cases st with
  | none =>
    have he : (e == 0) = false := hst
    have he2 : (e != 0) = true := by rw [bne, he]; rfl
    clear hst
    have HH := Lib.hid (show ListPost g w (listR many most none) (.returned (.slice none 0 0)) w from listPost_none ⟨s, e, hb, hs, he⟩ (Bt.refl g w))
    go_enter Tryz.func59, Tryz.ntmps59
    go_wp2_with (go_at_call 32; refine (err_any g s e _ hb).mono ?_; rintro x w' ⟨rfl, rfl⟩)
    go_ret
    exact HH.out
  | some l =>
    obtain ⟨rfl, rfl⟩ := hst
    obtain ⟨n, st1, hr⟩ : ∃ n st1, numR 1 (some (L s)) = (n, st1) := ⟨_, _, rfl⟩
    have hn255 : n ≤ 255 := by
      have := numR_lt (n := 1) (st := some (L s))
      rw [hr] at this
      have h1 : n < 256 := this
      omega
    rw [hr] at hN
    have HT := Lib.hid (listR_tail many most hr)
    have HN0 := Lib.hid (fun (e : st1 = none) => numR_fail (n := 1) (x := n) (e ▸ hr))
    clear hr
    have hc0 := hb.cell
    go_enter Tryz.func59, Tryz.ntmps59
    go_wp2_with (first
        | (go_at_call 32; refine (err_any g s 0 _ hb).mono ?_; rintro x w' ⟨rfl, rfl⟩))
    refine hN.out.mono ?_
    rintro x w1 ⟨rfl, hr1, hb1⟩
    clear hc0
    cases st1 with
    | none =>
      obtain rfl : n = 0 := HN0.out rfl
      obtain ⟨s1, e1, b1, z1, t1⟩ := hr1
      have c1 := b1.cell
      have he : (e1 == 0) = false := t1
      clear t1
      have HR0 := Lib.hid (show RdIs w1 g (textsR most 0 none).2 from ⟨s1, e1, b1, z1, he⟩)
      have HBt0 := Lib.hid hb1.bt
      go_wp2
      go_loopw [9, 33] (fun v i wr => i = .int .i64 0 ∧ v = .slice none 0 0 ∧ Hid (RdIs wr g (textsR most 0 none).2) ∧ Hid (Bt g w wr)) (fun _ _ _ => 0)
      case atStart => exact ⟨rfl, rfl, HR0.out, HBt0.out⟩
      case round =>
        obtain ⟨rfl, rfl, HR, HBt⟩ := hrel
        rw [show (textsR most 0 none).2 = none from rfl] at HR
        obtain ⟨s3, e3, b3, z3, t3⟩ := HR.out
        have he3 : (e3 == 0) = false := t3
        have he4 : (e3 != 0) = true := by rw [bne, he3]; rfl
        clear t3
        have c3 := b3.cell
        go_wp2_with (go_at_call 76; refine (fails_any g s3 s e3 e3 _ b3).mono ?_; rintro x w6 ⟨rfl, b6, hb6⟩)
        go_ret
        rw [HT.out]
        exact listPost_none ⟨s, e3, b6, hs, he3⟩ (HBt.out.trans hb6.bt)
    | some l1 =>
      obtain ⟨s1, e1, b1, z1, t1, t2⟩ := hr1
      subst t1 t2
      have c1 := b1.cell
      by_cases hgt : many < n
      · have dg : decide ((many : Int) < (n : Int)) = true := decide_eq_true (by omega)
        rw [tailL_long hgt] at HT
        go_wp2_with (first
          | (refine ev_field (ty := 31) (x := .tmp 31) (y := .const (.int .i64 6)) (g := g) (i := 1) (v := .int .i64 6) ?_ ?_ ?_ ?_ ?_ ?_ ?_ b1 ?_ ?_; (rfl); (rfl); (rfl); (rfl); (rfl); (rfl); (kernel_rfl); (simp)
             intro w15 b15 hb15
             have HR0 := Lib.hid (show RdIs w15 g (textsR most 0 none).2 from ⟨s1, 6, by simpa using b15, z1, rfl⟩)
             have HBt0 := Lib.hid (hb1.bt.trans hb15.bt)
             clear c1))
        go_loopw [9, 33] (fun v i wr => ∃ k : Nat, k ≤ n ∧ i = .int .i64 k ∧ Hid (wr.ownsRow w.heap.size 9 1 v k ((textsR most k none).1.map fun t => Value.string (B t))) ∧ Hid (RdIs wr g (textsR most k none).2) ∧ Hid (Bt g w wr)) (fun _ i _ => n - (intOf i).toNat)
        case atStart => exact ⟨0, Nat.zero_le _, rfl, World.ownsRow_nil _ _ _ _, HR0.out, HBt0.out⟩
        case round =>
          obtain ⟨k, hk, rfl, HO, HR, HBt⟩ := hrel
          by_cases hlt : k < n
          · obtain ⟨s3, e3, b3, z3, t3⟩ := HR.out
            have hnk := (n_small hlt hn255)
            go_wp2_with (first
              | (go_at_call 58; refine (rText_any most g _ _ HR.out hm).mono ?_; rintro x w4 ⟨rfl, hr4, hb4⟩
                 have HO4 := row_but HO.out hb4 b3 (by decide)
                 have HBt4 := Lib.hid (HBt.out.trans hb4.bt)
                 have HR4 := Lib.hid hr4
                 clear hr4)
              | (at_builtin; refine wpList_append_own _ rfl _ _ 22 rfl w.heap.size 9 i0 (.string ByteArray.empty) 1 16 Tryz.underlying22 hi hz0 hz1 hz2 rfl (by decide) _ _ _ rfl (HO4.alloc _) ⟨w4.heap.size, 0, none⟩ 1 1 [.string (B (textR most (textsR most k none).2).1)] rfl rfl ?c1 ?c2 ?c3 ?c4 ?c5 ?_))
            case c1 => intro j u hj; match j with
              | 0 => simp at hj; subst hj; simp [Addr.add]
              | j + 1 => simp at hj
            case c2 => simp [Value.oneCell']
            case c3 => unfold maxLen; omega
            case c4 => omega
            case c5 => have := HBt4.out.size; simp; omega
            intro v5 w5 HO5 hg5 _
            have HO5' : Hid (w5.ownsRow w.heap.size 9 1 v5 (k + 1) ((textsR most (k + 1) none).1.map fun t => Value.string (B t))) := by
              show World.ownsRow _ _ _ _ _ _ _
              rw [textsR, List.map_append]; exact HO5
            have hlt5 := HO4.lt
            have HR5 : Hid (RdIs w5 g (textsR most (k + 1) none).2) := by
              show RdIs _ _ _
              rw [textsR]
              obtain ⟨s5, e5, b5, q5⟩ := HR4.out
              refine ⟨s5, e5, ?_, q5⟩
              exact (hg5.block g (by have := b5.lt; simp; omega) (fun e => Lib.ownBlock_ne HO4 b5 (by decide) e.symm)).trans ((Lib.alloc_old _ _ g b5.lt).trans b5)
            have HBt5 : Hid (Bt g w w5) := by
              show Bt _ _ _
              have hA := HBt4.out.trans (bt_below (g := g) (balloc (o := .cells #[.string (B (textR most (textsR most k none).2).1)] 9) (Below.refl w4.heap.size w4)))
              exact ⟨hg5.os.trans hA.os, hg5.tape.trans hA.tape, hg5.output.trans hA.output, Nat.le_trans hA.size hg5.size, fun k' hk' hne => (hg5.block k' (by have := hA.size; omega) (fun e => by have := (hlt5 k' e.symm).1; omega)).trans (hA.block k' hk' hne)⟩
            go_wp2
            go_roundw
            case rel => exact ⟨k + 1, by omega, by go_num, HO5', HR5, HBt5⟩
            case measure => simp [intOf]; omega
          · obtain rfl : n = k := by omega
            clear hk hlt
            rw [textsR_none] at HR
            obtain ⟨s3, e3, b3, z3, t3⟩ := HR.out
            have he3 : (e3 == 0) = false := t3
            have he4 : (e3 != 0) = true := by rw [bne, he3]; rfl
            clear t3
            have c3 := b3.cell
            go_wp2_with (go_at_call 76; refine (fails_any g s3 s e3 e3 _ b3).mono ?_; rintro x w6 ⟨rfl, b6, hb6⟩)
            go_ret
            rw [HT.out]
            exact listPost_none ⟨s, e3, b6, hs, he3⟩ (HBt.out.trans hb6.bt)
      · have dg : decide ((many : Int) < (n : Int)) = false := decide_eq_false (by omega)
        have HR0 := Lib.hid (show RdIs w1 g (textsR most 0 (some (L s1))).2 from ⟨s1, 0, b1, z1, rfl, rfl⟩)
        have HBt0 := Lib.hid hb1.bt
        go_wp2
        go_loopw [9, 33] (fun v i wr => ∃ k : Nat, k ≤ n ∧ i = .int .i64 k ∧ Hid (wr.ownsRow w.heap.size 9 1 v k ((textsR most k (some (L s1))).1.map fun t => Value.string (B t))) ∧ Hid (RdIs wr g (textsR most k (some (L s1))).2) ∧ Hid (Bt g w wr)) (fun _ i _ => n - (intOf i).toNat)
        case atStart => exact ⟨0, Nat.zero_le _, rfl, World.ownsRow_nil _ _ _ _, HR0.out, HBt0.out⟩
        case round =>
          obtain ⟨k, hk, rfl, HO, HR, HBt⟩ := hrel
          by_cases hlt : k < n
          · obtain ⟨s3, e3, b3, z3, t3⟩ := HR.out
            have hnk := (n_small hlt hn255)
            go_wp2_with (first
              | (go_at_call 58; refine (rText_any most g _ _ HR.out hm).mono ?_; rintro x w4 ⟨rfl, hr4, hb4⟩
                 have HO4 := row_but HO.out hb4 b3 (by decide)
                 have HBt4 := Lib.hid (HBt.out.trans hb4.bt)
                 have HR4 := Lib.hid hr4
                 clear hr4)
              | (at_builtin; refine wpList_append_own _ rfl _ _ 22 rfl w.heap.size 9 i0 (.string ByteArray.empty) 1 16 Tryz.underlying22 hi hz0 hz1 hz2 rfl (by decide) _ _ _ rfl (HO4.alloc _) ⟨w4.heap.size, 0, none⟩ 1 1 [.string (B (textR most (textsR most k (some (L s1))).2).1)] rfl rfl ?c1 ?c2 ?c3 ?c4 ?c5 ?_))
            case c1 => intro j u hj; match j with
              | 0 => simp at hj; subst hj; simp [Addr.add]
              | j + 1 => simp at hj
            case c2 => simp [Value.oneCell']
            case c3 => unfold maxLen; omega
            case c4 => omega
            case c5 => have := HBt4.out.size; simp; omega
            intro v5 w5 HO5 hg5 _
            have HO5' : Hid (w5.ownsRow w.heap.size 9 1 v5 (k + 1) ((textsR most (k + 1) (some (L s1))).1.map fun t => Value.string (B t))) := by
              show World.ownsRow _ _ _ _ _ _ _
              rw [textsR, List.map_append]; exact HO5
            have hlt5 := HO4.lt
            have HR5 : Hid (RdIs w5 g (textsR most (k + 1) (some (L s1))).2) := by
              show RdIs _ _ _
              rw [textsR]
              obtain ⟨s5, e5, b5, q5⟩ := HR4.out
              refine ⟨s5, e5, ?_, q5⟩
              exact (hg5.block g (by have := b5.lt; simp; omega) (fun e => Lib.ownBlock_ne HO4 b5 (by decide) e.symm)).trans ((Lib.alloc_old _ _ g b5.lt).trans b5)
            have HBt5 : Hid (Bt g w w5) := by
              show Bt _ _ _
              have hA := HBt4.out.trans (bt_below (g := g) (balloc (o := .cells #[.string (B (textR most (textsR most k (some (L s1))).2).1)] 9) (Below.refl w4.heap.size w4)))
              exact ⟨hg5.os.trans hA.os, hg5.tape.trans hA.tape, hg5.output.trans hA.output, Nat.le_trans hA.size hg5.size, fun k' hk' hne => (hg5.block k' (by have := hA.size; omega) (fun e => by have := (hlt5 k' e.symm).1; omega)).trans (hA.block k' hk' hne)⟩
            go_wp2
            go_roundw
            case rel => exact ⟨k + 1, by omega, by go_num, HO5', HR5, HBt5⟩
            case measure => simp [intOf]; omega
          · obtain rfl : n = k := by omega
            clear hk hlt
            cases hq : (textsR most n (some (L s1))).2 with
            | none =>
              rw [tailL_fail hgt hq] at HT
              rw [hq] at HR
              clear hq
              obtain ⟨s3, e3, b3, z3, t3⟩ := HR.out
              have he3 : (e3 == 0) = false := t3
              have he4 : (e3 != 0) = true := by rw [bne, he3]; rfl
              clear t3
              have c3 := b3.cell
              go_wp2_with (go_at_call 76; refine (fails_any g s3 s e3 e3 _ b3).mono ?_; rintro x w6 ⟨rfl, b6, hb6⟩)
              go_ret
              rw [HT.out]
              exact listPost_none ⟨s, e3, b6, hs, he3⟩ (HBt.out.trans hb6.bt)
            | some r =>
              rw [tailL_yes hgt hq] at HT
              rw [hq] at HR
              clear hq
              obtain ⟨s3, e3, b3, z3, t31, t32⟩ := HR.out
              subst t32
              have HR3 := Lib.hid HR.out
              clear t31
              have c3 := b3.cell
              obtain ⟨A', c', rfl⟩ := own_slice HO.out
              have HL := Lib.hid (textsR_len most n (some (L s1)))
              go_wp2
              go_ret
              rw [HT.out]
              refine ⟨A', c', by rw [HL.out]; rfl, ?_, HR3.out, HBt.out⟩
              rw [List.map_map, HL.out]; exact HO.out

end Go.Proofs.YtnlpohcnlmdocaaGreat
