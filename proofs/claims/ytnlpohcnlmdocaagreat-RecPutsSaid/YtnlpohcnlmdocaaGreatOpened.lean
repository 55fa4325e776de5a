/- What was sealed, opened: rec.opened. -/
import Derived.Test.YtnlpohcnlmdocaaGreatRead3
import Derived.Test.YtnlpohcnlmdocaaGreatPutL
import Derived.Test.YtnlpohcnlmdocaaGreatRel
namespace Go.Proofs.YtnlpohcnlmdocaaGreat
open Go.Shelf Go.RowKit
set_option linter.unusedVariables false
set_option linter.unusedSimpArgs false

/-- The record of what was sealed, and what is left. -/
def openedL (l : List UInt8) : Msg × RSt :=
  let r1 := numR 1 (some l); let r2 := numR 1 r1.2; let r3 := numR 1 r2.2
  let r4 := numR 6 r3.2; let r5 := numR 6 r4.2; let r6 := numR 6 r5.2
  let r7 := textR 16 r6.2; let r8 := textR 16 r7.2; let r9 := textR 200 r8.2
  let r10 := listR 3 16 r9.2
  (⟨(r1.1 : Int), (r2.1 : Int), (r5.1 : Int), (r3.1 : Int), (r6.1 : Int), (r4.1 : Int), B r7.1, B r8.1, B r9.1, r10.1.map B⟩, r10.2)
/-- Is it one? -/
def okL (l : List UInt8) : Bool := decide ((openedL l).2 = some []) && (((openedL l).1.kind != 0) && rightM (openedL l).1)
theorem listR_small (k m : Nat) (st : RSt) : (listR k m st).1.length ≤ 255 ∧ ∀ t ∈ (listR k m st).1, t.length ≤ m := by
  have hn : (numR 1 st).1 < 256 := numR_lt (n := 1)
  unfold listR
  split
  · exact ⟨Nat.zero_le _, by simp⟩
  · split
    · exact ⟨Nat.zero_le _, by simp⟩
    · split
      · exact ⟨Nat.zero_le _, by simp⟩
      · exact ⟨by rw [textsR_len]; omega, textsR_all m _ _⟩
def msgCells (m : Msg) (A : Option Addr) (c : Nat) : Array Value := #[.int .i64 m.kind, .int .i64 m.queue, .int .i64 m.due, .int .i64 m.retry, .int .i64 m.ref, .int .i64 m.born, .string m.topic, .string m.tag, .string m.body, .slice A m.keys.length c]
def OpenPost (w : World) (m : Msg) (ok : Bool) (x : Ending) (w' : World) : Prop :=
  ∃ A c b0, x = .returned (.tuple #[.agg (msgCells m A c), .bool ok]) ∧ w'.ownsRow b0 9 1 (.slice A m.keys.length c) m.keys.length (m.keys.map Value.string) ∧ Below w.heap.size w w'

/-- But for block g, which turns into these cells at most. -/
def LeO (g : Nat) (cs : Array Value) (a b : World) : Prop := Bt g a b ∧ (b.heap[g]? = a.heap[g]? ∨ Blk b g 24 cs)
theorem LeO.trans {g : Nat} {cs : Array Value} {a b c : World} (h : LeO g cs a b) (h2 : LeO g cs b c) : LeO g cs a c := by
  refine ⟨h.1.trans h2.1, ?_⟩
  rcases h2.2 with e | e
  · rcases h.2 with e1 | e1
    · exact .inl (e.trans e1)
    · exact .inr (by unfold Blk; rw [e]; exact e1)
  · exact .inr e
theorem LeO.below {g : Nat} {cs : Array Value} {a b : World} (hg : g < a.heap.size) (h : Below a.heap.size a b) : LeO g cs a b := ⟨bt_below h, .inl (h.block g hg)⟩
theorem LeO.refl (g : Nat) (cs : Array Value) (a : World) : LeO g cs a a := ⟨Bt.refl g a, .inl rfl⟩
theorem RdIs.bt {w w' : World} {g g' : Nat} {st : RSt} (h : RdIs w g st) (hb : Bt g' w w') (hne : g ≠ g') : RdIs w' g st := by
  obtain ⟨s, e, h1, h2⟩ := h; exact ⟨s, e, h1.bt hb hne, h2⟩
theorem endB_eq {st : RSt} {e : Int} (h : endB st e) : (e == 0) = decide (st = some []) := by
  match st, h with
  | none, h => rw [show (e == 0) = false from h]; rfl
  | some [], h => rw [show e = 0 from h]; rfl
  | some (_ :: _), h => rw [show (e == 0) = false from h]; simp
theorem getD_opt (t : Array Value) (i : Nat) (d : Value) : t.getD i d = t[i]?.getD d := by simp

def openedR (g gm r0 : Nat) (st : RSt) (m : Msg) (A : Option Addr) (c : Nat) (okE okK okR : Bool) : Nat → Value → World → Prop
  | 0, v, _ => v = .agg (msgCells m A c)
  | 1, v, _ => v = .pointer (some ⟨g, 0, none⟩)
  | 2, v, _ => ∃ e : Int, v = .int .i64 e ∧ (e == 0) = okE
  | 3, v, _ => v = .bool okE
  | 4, v, _ => v = .bool okE
  | 5, v, _ => okE = true → v = .pointer (some ⟨gm, 0, none⟩)
  | 6, v, _ => okE = true → v = .int .i64 m.kind
  | 7, v, _ => okE = true → v = .bool okK
  | 8, v, _ => v = .bool (okE && okK)
  | 9, v, _ => v = .bool (okE && okK)
  | 10, v, _ => (okE && okK) = true → v = .agg (msgCells m A c)
  | 11, v, _ => (okE && okK) = true → v = .bool okR
  | 12, v, _ => v = .bool ((okE && okK) && okR)
  | 13, _, w => Blk w r0 24 (msgCells m A c)
  | 14, v, _ => v = .bool ((okE && okK) && okR)
  | _, _, _ => True
theorem openedR_mono (g gm r0 : Nat) (st : RSt) (m : Msg) (A : Option Addr) (c : Nat) (okE okK okR : Bool) : ∀ i v w1 w2, LeO r0 (msgCells m A c) w1 w2 → openedR g gm r0 st m A c okE okK okR i v w1 → openedR g gm r0 st m A c okE okK okR i v w2 := by
  intro i v w1 w2 hle h
  match i with
  | 13 =>
    rcases hle.2 with e | e
    · show w2.heap[r0]? = _; rw [e]; exact h
    · exact e
  | 0 | 1 | 2 | 3 | 4 | 5 | 6 | 7 | 8 | 9 | 10 | 11 | 12 | 14 => exact h
  | _ + 15 => trivial


set_option maxRecDepth 100000 in
set_option maxHeartbeats 8000000 in
theorem opened_any (s : ByteArray) (w : World) (hs : s.size ≤ 140737488355328) :
    Calls Tryz.prog 34 #[.string s] w (OpenPost w (openedL (L s)).1 (okL (L s))) := by
  obtain ⟨k, st1, E1⟩ : ∃ v st, numR 1 (some (L s)) = (v, st) := ⟨_, _, rfl⟩
  obtain ⟨q, st2, E2⟩ : ∃ v st, numR 1 (st1) = (v, st) := ⟨_, _, rfl⟩
  obtain ⟨y, st3, E3⟩ : ∃ v st, numR 1 (st2) = (v, st) := ⟨_, _, rfl⟩
  obtain ⟨b, st4, E4⟩ : ∃ v st, numR 6 (st3) = (v, st) := ⟨_, _, rfl⟩
  obtain ⟨d, st5, E5⟩ : ∃ v st, numR 6 (st4) = (v, st) := ⟨_, _, rfl⟩
  obtain ⟨f, st6, E6⟩ : ∃ v st, numR 6 (st5) = (v, st) := ⟨_, _, rfl⟩
  obtain ⟨t, st7, E7⟩ : ∃ v st, textR 16 (st6) = (v, st) := ⟨_, _, rfl⟩
  obtain ⟨u, st8, E8⟩ : ∃ v st, textR 16 (st7) = (v, st) := ⟨_, _, rfl⟩
  obtain ⟨p, st9, E9⟩ : ∃ v st, textR 200 (st8) = (v, st) := ⟨_, _, rfl⟩
  obtain ⟨l, st10, E10⟩ : ∃ v st, listR 3 16 (st9) = (v, st) := ⟨_, _, rfl⟩
  have HM := Lib.hid (show openedL (L s) = (⟨(k : Int), (q : Int), (d : Int), (y : Int), (f : Int), (b : Int), B t, B u, B p, l.map B⟩, st10) by simp only [openedL, E1, E2, E3, E4, E5, E6, E7, E8, E9, E10])
  have HL := Lib.hid (by have := listR_small 3 16 st9; rw [E10] at this; exact this)
  have F1 := Lib.hid E1
  have F2 := Lib.hid E2
  have F3 := Lib.hid E3
  have F4 := Lib.hid E4
  have F5 := Lib.hid E5
  have F6 := Lib.hid E6
  have F7 := Lib.hid E7
  have F8 := Lib.hid E8
  have F9 := Lib.hid E9
  have F10 := Lib.hid E10
  clear E1 E2 E3 E4 E5 E6 E7 E8 E9 E10
  have HB0 : Below w.heap.size w (w.alloc (.cells #[.int .i64 0, .int .i64 0, .int .i64 0, .int .i64 0, .int .i64 0, .int .i64 0, .string ⟨#[]⟩, .string ⟨#[]⟩, .string ⟨#[]⟩, .slice none 0 0] 24)) := balloc (Below.refl _ _)
  have b00 := Blk.new w 24 #[.int .i64 0, .int .i64 0, .int .i64 0, .int .i64 0, .int .i64 0, .int .i64 0, .string ⟨#[]⟩, .string ⟨#[]⟩, .string ⟨#[]⟩, .slice none 0 0]
  go_enter Tryz.func34, Tryz.ntmps34
  go_wp2_with fail
  refine (oNew_any s _ hs).mono ?_
  rintro x w0 ⟨rfl, hr0, hb0⟩
  have b0 := b00.later hb0
  have HB := bstep HB0 hb0
  clear b00 HB0 hb0
  obtain ⟨g, hg⟩ : ∃ g, (w.alloc (.cells #[.int .i64 0, .int .i64 0, .int .i64 0, .int .i64 0, .int .i64 0, .int .i64 0, .string ⟨#[]⟩, .string ⟨#[]⟩, .string ⟨#[]⟩, .slice none 0 0] 24)).heap.size = g := ⟨_, rfl⟩
  have hg2 : w.heap.size + 1 = g := by rw [← hg]; simp
  have hgw : w.heap.size < g := by omega
  rw [hg] at hr0 ⊢
  clear hg hg2
  clear hs
  have N1 := rNum_read 1 g _ w0 hr0 (by omega) (by omega)
  rw [F1.out] at N1
  have M1 := Lib.hid N1
  clear N1
  go_wp2_with fail
  refine M1.out.mono ?_
  rintro x w10 ⟨rfl, hr10, hb10⟩
  have b10 := b0.but hb10 (by omega)
  have HB10 := HB.trans (hb10.below (by omega))
  clear M1 hb10 b0 hr0
  have N2 := rNum_read 1 g _ w10 hr10 (by omega) (by omega)
  rw [F2.out] at N2
  have M2 := Lib.hid N2
  clear N2
  go_wp2_with fail
  refine M2.out.mono ?_
  rintro x w20 ⟨rfl, hr20, hb20⟩
  have b20 := b10.but hb20 (by omega)
  have HB20 := HB10.trans (hb20.below (by omega))
  clear M2 hb20 b10 hr10
  have N3 := rNum_read 1 g _ w20 hr20 (by omega) (by omega)
  rw [F3.out] at N3
  have M3 := Lib.hid N3
  clear N3
  go_wp2_with fail
  refine M3.out.mono ?_
  rintro x w30 ⟨rfl, hr30, hb30⟩
  have b30 := b20.but hb30 (by omega)
  have HB30 := HB20.trans (hb30.below (by omega))
  clear M3 hb30 b20 hr20
  have bm31 := Blk.new w30 24 #[.int .i64 k, .int .i64 q, .int .i64 0, .int .i64 y, .int .i64 0, .int .i64 0, .string ⟨#[]⟩, .string ⟨#[]⟩, .string ⟨#[]⟩, .slice none 0 0]
  have hr31 := hr30.below (balloc (o := .cells #[.int .i64 k, .int .i64 q, .int .i64 0, .int .i64 y, .int .i64 0, .int .i64 0, .string ⟨#[]⟩, .string ⟨#[]⟩, .string ⟨#[]⟩, .slice none 0 0] 24) (Below.refl _ _))
  have b31 := b30.later (balloc (o := .cells #[.int .i64 k, .int .i64 q, .int .i64 0, .int .i64 y, .int .i64 0, .int .i64 0, .string ⟨#[]⟩, .string ⟨#[]⟩, .string ⟨#[]⟩, .slice none 0 0] 24) (Below.refl _ _))
  have HB31 := balloc (o := .cells #[.int .i64 k, .int .i64 q, .int .i64 0, .int .i64 y, .int .i64 0, .int .i64 0, .string ⟨#[]⟩, .string ⟨#[]⟩, .string ⟨#[]⟩, .slice none 0 0] 24) HB30
  obtain ⟨gm, hgm⟩ : ∃ gm, w30.heap.size = gm := ⟨_, rfl⟩
  have hgmg : g < gm := by have := hr30.lt; omega
  rw [hgm] at bm31
  clear b30 hr30
  have N4 := rNum_read 6 g _ (w30.alloc (.cells #[.int .i64 k, .int .i64 q, .int .i64 0, .int .i64 y, .int .i64 0, .int .i64 0, .string ⟨#[]⟩, .string ⟨#[]⟩, .string ⟨#[]⟩, .slice none 0 0] 24)) hr31 (by omega) (by omega)
  rw [F4.out] at N4
  have M4 := Lib.hid N4
  clear N4
  go_wp2_with fail
  clear hgm
  refine M4.out.mono ?_
  rintro x w40 ⟨rfl, hr40, hb40⟩
  have b40 := b31.but hb40 (by omega)
  have HB40 := HB31.trans (hb40.below (by omega))
  have bm40 := bm31.but hb40 (by omega)
  clear M4 hb40 b31 hr31
  have N5 := rNum_read 6 g _ w40 hr40 (by omega) (by omega)
  rw [F5.out] at N5
  have M5 := Lib.hid N5
  clear N5
  go_wp2_with fail
  refine M5.out.mono ?_
  rintro x w50 ⟨rfl, hr50, hb50⟩
  have b50 := b40.but hb50 (by omega)
  have HB50 := HB40.trans (hb50.below (by omega))
  have bm50 := bm40.but hb50 (by omega)
  clear M5 hb50 b40 hr40
  have N6 := rNum_read 6 g _ w50 hr50 (by omega) (by omega)
  rw [F6.out] at N6
  have M6 := Lib.hid N6
  clear N6
  go_wp2_with fail
  refine M6.out.mono ?_
  rintro x w60 ⟨rfl, hr60, hb60⟩
  have b60 := b50.but hb60 (by omega)
  have HB60 := HB50.trans (hb60.below (by omega))
  have bm60 := bm50.but hb60 (by omega)
  clear M6 hb60 b50 hr50
  go_wp2_with (first
    | (refine ev_field (ty := 3) (x := .tmp 21) (y := .tmp 16) (g := gm) (i := 5) (v := .int .i64 b) ?_ ?_ ?_ ?_ ?_ ?_ ?_ bm60 ?_ ?_; (rfl); (rfl); (rfl); (rfl); (rfl); (rfl); (kernel_rfl); (simp)
       intro w61 bm61 ht61
       simp only [List.setIfInBounds_toArray, List.set_cons_succ, List.set_cons_zero] at bm61
       have b61 := b60.but ht61 (by omega)
       have HB61 := HB60.trans (ht61.below (by omega))
       have hr61 := hr60.bt ht61.bt (by omega))
    | (refine ev_field (ty := 3) (x := .tmp 22) (y := .tmp 18) (g := gm) (i := 2) (v := .int .i64 d) ?_ ?_ ?_ ?_ ?_ ?_ ?_ bm61 ?_ ?_; (rfl); (rfl); (rfl); (rfl); (rfl); (rfl); (kernel_rfl); (simp)
       intro w62 bm62 ht62
       simp only [List.setIfInBounds_toArray, List.set_cons_succ, List.set_cons_zero] at bm62
       have b62 := b61.but ht62 (by omega)
       have HB62 := HB61.trans (ht62.below (by omega))
       have hr62 := hr61.bt ht62.bt (by omega))
    | (refine ev_field (ty := 3) (x := .tmp 23) (y := .tmp 20) (g := gm) (i := 4) (v := .int .i64 f) ?_ ?_ ?_ ?_ ?_ ?_ ?_ bm62 ?_ ?_; (rfl); (rfl); (rfl); (rfl); (rfl); (rfl); (kernel_rfl); (simp)
       intro w63 bm63 ht63
       simp only [List.setIfInBounds_toArray, List.set_cons_succ, List.set_cons_zero] at bm63
       have b63 := b62.but ht63 (by omega)
       have HB63 := HB62.trans (ht63.below (by omega))
       have hr63 := hr62.bt ht63.bt (by omega)))
  have N7 := rText_any 16 g _ w63 hr63 (by omega)
  rw [F7.out] at N7
  have M7 := Lib.hid N7
  clear N7
  refine M7.out.mono ?_
  rintro x w70 ⟨rfl, hr70, hb70⟩
  have b70 := b63.but hb70 (by omega)
  have HB70 := HB63.trans (hb70.below (by omega))
  have bm70 := bm63.but hb70 (by omega)
  clear M7 hb70 b63 hr63
  have N8 := rText_any 16 g _ w70 hr70 (by omega)
  rw [F8.out] at N8
  have M8 := Lib.hid N8
  clear N8
  go_wp2_with fail
  refine M8.out.mono ?_
  rintro x w80 ⟨rfl, hr80, hb80⟩
  have b80 := b70.but hb80 (by omega)
  have HB80 := HB70.trans (hb80.below (by omega))
  have bm80 := bm70.but hb80 (by omega)
  clear M8 hb80 b70 hr70
  have N9 := rText_any 200 g _ w80 hr80 (by omega)
  rw [F9.out] at N9
  have M9 := Lib.hid N9
  clear N9
  go_wp2_with fail
  refine M9.out.mono ?_
  rintro x w90 ⟨rfl, hr90, hb90⟩
  have b90 := b80.but hb90 (by omega)
  have HB90 := HB80.trans (hb90.below (by omega))
  have bm90 := bm80.but hb90 (by omega)
  clear M9 hb90 b80 hr80
  go_wp2_with (first
    | (refine ev_field (ty := 9) (x := .tmp 30) (y := .tmp 25) (g := gm) (i := 6) (v := .string (B t)) ?_ ?_ ?_ ?_ ?_ ?_ ?_ bm90 ?_ ?_; (rfl); (rfl); (rfl); (rfl); (rfl); (rfl); (kernel_rfl); (simp)
       intro w91 bm91 ht91
       simp only [List.setIfInBounds_toArray, List.set_cons_succ, List.set_cons_zero] at bm91
       have b91 := b90.but ht91 (by omega)
       have HB91 := HB90.trans (ht91.below (by omega))
       have hr91 := hr90.bt ht91.bt (by omega))
    | (refine ev_field (ty := 9) (x := .tmp 31) (y := .tmp 27) (g := gm) (i := 7) (v := .string (B u)) ?_ ?_ ?_ ?_ ?_ ?_ ?_ bm91 ?_ ?_; (rfl); (rfl); (rfl); (rfl); (rfl); (rfl); (kernel_rfl); (simp)
       intro w92 bm92 ht92
       simp only [List.setIfInBounds_toArray, List.set_cons_succ, List.set_cons_zero] at bm92
       have b92 := b91.but ht92 (by omega)
       have HB92 := HB91.trans (ht92.below (by omega))
       have hr92 := hr91.bt ht92.bt (by omega))
    | (refine ev_field (ty := 9) (x := .tmp 32) (y := .tmp 29) (g := gm) (i := 8) (v := .string (B p)) ?_ ?_ ?_ ?_ ?_ ?_ ?_ bm92 ?_ ?_; (rfl); (rfl); (rfl); (rfl); (rfl); (rfl); (kernel_rfl); (simp)
       intro w93 bm93 ht93
       simp only [List.setIfInBounds_toArray, List.set_cons_succ, List.set_cons_zero] at bm93
       have b93 := b92.but ht93 (by omega)
       have HB93 := HB92.trans (ht93.below (by omega))
       have hr93 := hr92.bt ht93.bt (by omega)))
  have N10 := rList_any 3 16 g _ w93 hr93 (by omega) (by omega)
  rw [F10.out] at N10
  have M10 := Lib.hid N10
  clear N10
  refine M10.out.mono ?_
  rintro x w100 ⟨A, c, rfl, hk100, hr100, hb100⟩
  dsimp only at hk100 hr100
  have b100 := b93.bt hb100 (by omega)
  have bm100 := bm93.bt hb100 (by omega)
  have HB100 := HB93.trans (hb100.below (by omega) HB93.size)
  clear M10 b93 bm93 hr93
  go_wp2_with (first
    | (refine ev_field (ty := 22) (x := .tmp 35) (y := .tmp 34) (g := gm) (i := 9) (v := .slice A l.length c) ?_ ?_ ?_ ?_ ?_ ?_ ?_ bm100 ?_ ?_; (rfl); (rfl); (rfl); (rfl); (rfl); (rfl); (kernel_rfl); (simp)
       intro w101 bm101 ht101
       simp only [List.setIfInBounds_toArray, List.set_cons_succ, List.set_cons_zero] at bm101
       have b101 := b100.but ht101 (by omega)
       have HB101 := HB100.trans (ht101.below (by omega))
       have hr101 := hr100.bt ht101.bt (by omega)))
  have hk101 := row_but hk100 ht101 bm100 (by decide)
  obtain ⟨m, hm⟩ : ∃ m : Msg, m = ⟨(k : Int), (q : Int), (d : Int), (y : Int), (f : Int), (b : Int), B t, B u, B p, l.map B⟩ := ⟨_, rfl⟩
  have hcs : #[.int .i64 k, .int .i64 q, .int .i64 d, .int .i64 y, .int .i64 f, .int .i64 b, .string (B t), .string (B u), .string (B p), .slice A l.length c] = msgCells m A c := by
    rw [hm]; unfold msgCells; simp
  have hkl : l.length = m.keys.length := by rw [hm]; simp
  have hkk : l.map B = m.keys := by rw [hm]
  rw [hcs] at bm101
  rw [hkl, hkk] at hk101
  have HK := Lib.hid hk101
  have hn16 : m.keys.length * 16 ≤ 140737488355328 := by have := HL.out.1; omega
  have HS : Hid (∀ s ∈ m.keys, s.size ≤ 9223372036854775807) := by
    show ∀ s ∈ m.keys, _
    intro s hs
    rw [← hkk, List.mem_map] at hs
    obtain ⟨t, ht, rfl⟩ := hs
    rw [B_size]; have := HL.out.2 t ht; omega
  have HMe : Hid ((openedL (L s)).1 = m ∧ (openedL (L s)).2 = st10) := by
    show _ ∧ _
    rw [HM.out, hm]; exact ⟨rfl, rfl⟩
  have HB101' := Lib.hid HB101
  have hr101' := Lib.hid hr101
  have b101' := Lib.hid b101
  have bm101' := Lib.hid bm101
  have hr0l : w.heap.size < w101.heap.size := b101.lt
  clear hcs hkl hkk hk101 hk100 hm HM HL HB101 hr101 b101 bm101 HB100 HB93 HB92 HB91
  obtain ⟨okE, hokE⟩ : ∃ okE, decide (st10 = some []) = okE := ⟨_, rfl⟩
  obtain ⟨okK, hokK⟩ : ∃ okK, (m.kind != 0) = okK := ⟨_, rfl⟩
  have HE := Lib.hid hokE
  have HKk := Lib.hid hokK
  clear hokE
  refine wp_region_rel (by kernel_rfl) (LeO w.heap.size (msgCells m A c)) (openedR g gm w.heap.size st10 m A c okE okK (rightM m)) (by kernel_rfl) ?_ ?_ ?_ ?_ ?_
  · exact ⟨bt_below (bdrew (Below.refl _ _)), .inl rfl⟩
  · exact fun _ _ _ h1 h2 => h1.trans h2
  · exact openedR_mono g gm w.heap.size st10 m A c okE okK (rightM m)
  · refine ⟨?_, ?_, ?_, ?_, ?_, ?_, ?_, ?_, ?_, ?_, ?_, ?_, ?_, ?_, ?_, trivial⟩
    · intro a w' hle hk hR K hK
      have k5 : a.tmps[5]?.getD undef = .pointer (some ⟨gm, 0, none⟩) := hk 5 (by kernel_rfl)
      have c0 := (bm101'.out.bt hle.1 (by omega)).cell
      unfold msgCells at c0
      refine ite_yes rfl ?_
      go_simp
      exact hK _ _ (LeO.refl _ _ _) rfl
    · intro a w' hle hk hR K hK
      have k4 : a.tmps[4]?.getD undef = .pointer (some ⟨g, 0, none⟩) := hk 4 (by kernel_rfl)
      refine ite_yes rfl ?_
      go_simp
      exact hK _ _ (LeO.refl _ _ _) rfl
    · intro a w' hle hk hR K hK
      have k37 : a.tmps[37]?.getD undef = .pointer (some ⟨g, 0, none⟩) := hR 1 (by kernel_rfl)
      refine ite_yes rfl ?_
      go_simp
      refine (end_any g st10 w' (hr101'.out.bt hle.1 (by omega))).mono ?_
      rintro x w'' ⟨⟨e, he, rfl⟩, rfl⟩
      exact hK _ _ (LeO.refl _ _ _) ⟨e, rfl, (endB_eq he).trans HE.out⟩
    · intro a w' hle hk hR K hK
      obtain ⟨e, k38, he⟩ := hR 2 (by kernel_rfl)
      replace k38 : a.tmps[38]?.getD undef = .int .i64 e := k38
      refine ite_yes rfl ?_
      go_simp
      exact hK _ _ (LeO.refl _ _ _) rfl
    · intro a w' hle hk hR K hK
      have k39 : a.tmps[39]?.getD undef = .bool okE := hR 3 (by kernel_rfl)
      refine ite_yes rfl ?_
      go_simp
      exact hK _ _ (LeO.refl _ _ _) rfl
    · intro a w' hle hk hR K hK
      have k5 : a.tmps[5]?.getD undef = .pointer (some ⟨gm, 0, none⟩) := hk 5 (by kernel_rfl)
      have hG : a.tmps[40]?.getD undef = .bool okE := hR 4 (by kernel_rfl)
      cases okE
      · refine ite_no (unwanted_of rfl (by kernel_rfl) hG) ?_
        exact hK undef _ (LeO.refl _ _ _) (fun h => by cases h)
      · refine ite_yes (wanted_of rfl (by kernel_rfl) hG) ?_
        go_simp
        exact hK _ _ (LeO.refl _ _ _) (fun _ => rfl)
    · intro a w' hle hk hR K hK
      have hG : a.tmps[40]?.getD undef = .bool okE := hR 4 (by kernel_rfl)
      have c0 := (bm101'.out.bt hle.1 (by omega)).cell
      unfold msgCells at c0
      cases okE
      · refine ite_no (unwanted_of rfl (by kernel_rfl) hG) ?_
        exact hK undef _ (LeO.refl _ _ _) (fun h => by cases h)
      · have k41 : a.tmps[41]?.getD undef = .pointer (some ⟨gm, 0, none⟩) := hR 5 (by kernel_rfl) rfl
        refine ite_yes (wanted_of rfl (by kernel_rfl) hG) ?_
        go_simp
        exact hK _ _ (LeO.refl _ _ _) (fun _ => rfl)
    · intro a w' hle hk hR K hK
      have hG : a.tmps[40]?.getD undef = .bool okE := hR 4 (by kernel_rfl)
      cases okE
      · refine ite_no (unwanted_of rfl (by kernel_rfl) hG) ?_
        exact hK undef _ (LeO.refl _ _ _) (fun h => by cases h)
      · have k42 : a.tmps[42]?.getD undef = .int .i64 m.kind := hR 6 (by kernel_rfl) rfl
        refine ite_yes (wanted_of rfl (by kernel_rfl) hG) ?_
        go_simp
        exact hK _ _ (LeO.refl _ _ _) (fun _ => rfl)
    · intro a w' hle hk hR K hK
      have k40 : a.tmps[40]?.getD undef = .bool okE := hR 4 (by kernel_rfl)
      refine ite_yes rfl ?_
      cases okE
      · go_simp
        exact hK _ _ (LeO.refl _ _ _) rfl
      · have k43 : a.tmps[43]?.getD undef = .bool okK := hR 7 (by kernel_rfl) rfl
        go_simp
        exact hK _ _ (LeO.refl _ _ _) (by simp [openedR])
    · intro a w' hle hk hR K hK
      have k44 : a.tmps[44]?.getD undef = .bool (okE && okK) := hR 8 (by kernel_rfl)
      refine ite_yes rfl ?_
      go_simp
      exact hK _ _ (LeO.refl _ _ _) rfl
    · intro a w' hle hk hR K hK
      have k5 : a.tmps[5]?.getD undef = .pointer (some ⟨gm, 0, none⟩) := hk 5 (by kernel_rfl)
      have hG : a.tmps[45]?.getD undef = .bool (okE && okK) := hR 9 (by kernel_rfl)
      have c0 := (bm101'.out.bt hle.1 (by omega)).cell
      unfold msgCells at c0
      cases h12 : (okE && okK)
      · rw [h12] at hG
        refine ite_no (unwanted_of rfl (by kernel_rfl) hG) ?_
        exact hK undef _ (LeO.refl _ _ _) (fun h => by rw [h12] at h; cases h)
      · rw [h12] at hG
        refine ite_yes (wanted_of rfl (by kernel_rfl) hG) ?_
        clear h12
        go_simp
        exact hK _ _ (LeO.refl _ _ _) (fun _ => rfl)
    · intro a w' hle hk hR K hK
      have hG : a.tmps[45]?.getD undef = .bool (okE && okK) := hR 9 (by kernel_rfl)
      have hKs : Strs w' A m.keys := Strs.of_row (row_bt HK.out hle.1 b101'.out (by decide))
      have hlt' : w.heap.size < w'.heap.size := Nat.lt_of_lt_of_le hr0l hle.1.size
      cases h12 : (okE && okK)
      · rw [h12] at hG
        refine ite_no (unwanted_of rfl (by kernel_rfl) hG) ?_
        exact hK undef _ (LeO.refl _ _ _) (fun h => by rw [h12] at h; cases h)
      · have k46 : a.tmps[46]?.getD undef = .agg (msgCells m A c) := hR 10 (by kernel_rfl) h12
        rw [h12] at hG
        refine ite_yes (wanted_of rfl (by kernel_rfl) hG) ?_
        clear h12
        unfold msgCells at k46
        go_simp
        refine (right_any m A c w' hKs hn16 HS.out).mono ?_
        rintro x w'' ⟨rfl, hb⟩
        exact hK _ _ (LeO.below hlt' hb) (fun _ => rfl)
    · intro a w' hle hk hR K hK
      have k45 : a.tmps[45]?.getD undef = .bool (okE && okK) := hR 9 (by kernel_rfl)
      refine ite_yes rfl ?_
      cases h12 : (okE && okK)
      · rw [h12] at k45
        go_simp
        exact hK _ _ (LeO.refl _ _ _) (by show Value.bool _ = Value.bool _; rw [h12]; rfl)
      · have k47 : a.tmps[47]?.getD undef = .bool (rightM m) := hR 11 (by kernel_rfl) h12
        rw [h12] at k45
        go_simp
        exact hK _ _ (LeO.refl _ _ _) (by show Value.bool _ = Value.bool _; rw [h12]; simp)
    · intro a w' hle hk hR K hK
      have k2 : a.eval (.tmp 2) = .pointer (some ⟨w.heap.size, 0, none⟩) := (getD_opt _ _ _).trans (hk 2 (by kernel_rfl))
      have k36 : a.eval (.tmp 36) = .agg (msgCells m A c) := (getD_opt _ _ _).trans (hR 0 (by kernel_rfl))
      have hold : ∃ old, Blk w' w.heap.size 24 old ∧ old.size = 10 := by
        rcases hle.2 with e | e
        · exact ⟨_, e.trans b101'.out, rfl⟩
        · exact ⟨_, e, rfl⟩
      obtain ⟨old, ho, hz⟩ := hold
      refine ite_yes rfl ?_
      refine wp_store_row 24 (.tmp 2) (.tmp 36) rfl w.heap.size (msgCells m A c) k2 k36 24 old ho (by rw [show (msgCells m A c).size = 10 from rfl]; kernel_rfl) hz (by simp [msgCells, Value.oneCell']) ?_
      exact hK undef _ ⟨But.setRow.bt, .inr (setRow_heap w' w.heap.size old _ _ (0, 0) ho)⟩ (setRow_heap w' w.heap.size old _ _ (0, 0) ho)
    · intro a w' hle hk hR K hK
      have k48 : a.tmps[48]?.getD undef = .bool ((okE && okK) && rightM m) := hR 12 (by kernel_rfl)
      refine ite_yes rfl ?_
      go_simp
      exact hK _ _ (LeO.refl _ _ _) rfl
  · intro a' w' hle hdf hsz hk hR
    obtain ⟨T, D⟩ := a'
    have k2 : T[2]?.getD undef = .pointer (some ⟨w.heap.size, 0, none⟩) := hk 2 (by kernel_rfl)
    have k3 : T[3]?.getD undef = .bool ((okE && okK) && rightM m) := hR 14 (by decide)
    obtain rfl : D = [] := hdf
    have hbr : Blk w' w.heap.size 24 (msgCells m A c) := hR 13 (by decide)
    have hKs := row_bt HK.out hle.1 b101'.out (by decide)
    have HBf : Below w.heap.size w w' := HB101'.out.trans (hle.1.below (Nat.le_refl _) (Nat.le_of_lt hr0l))
    have hok : okL (L s) = ((okE && okK) && rightM m) := by
      unfold okL; rw [HMe.out.1, HMe.out.2, HE.out, HKk.out, Bool.and_assoc]
    clear hR hk
    have hcr := hbr.cell
    unfold msgCells at hcr
    go_wp2
    refine bodyPost_ret (v := .tuple #[.agg (msgCells m A c), .bool ((okE && okK) && rightM m)]) ?_ rfl ⟨A, c, _, by rw [HMe.out.1], by rw [HMe.out.1]; exact hKs, HBf⟩
    simp [results, Tryz.results34, go_sem, hcr, k2, k3, msgCells]

end Go.Proofs.YtnlpohcnlmdocaaGreat
