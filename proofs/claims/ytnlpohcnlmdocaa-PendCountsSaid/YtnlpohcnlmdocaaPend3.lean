/- What is still to come: Counts. -/
import Derived.Test.YtnlpohcnlmdocaaPend2
import Derived.BigQuiet
namespace Go.Proofs.Ytnlpohcnlmdocaa
open Go.RowKit Go.Shelf Go.Maps
set_option linter.unusedSimpArgs false
set_option linter.unusedVariables false

/-- A datum's state. -/
def stD : DataW Unit → Int
  | .agg (.lit (.int _ s) :: _) => s
  | _ => 0
theorem stD_one (c : Int × Int) : stD (oneD c) = c.1 := rfl
/-- How many are in a state. -/
def cntE (es : List (Lit × DataW Unit)) (i : Int) : Nat := es.countP fun p => stD p.2 == i
def cntM (D : DataW Unit) (i : Int) : Nat := match D with
  | .map es => cntE es i
  | _ => 0
/-- How many of those that have come. -/
def cntL (es : List (Lit × DataW Unit)) (left : Lit → Bool) (i : Int) : Nat := es.countP fun p => !left p.1 && (stD p.2 == i)
/-- Each entry is in a state 1, 2 or 3. -/
def Good (D : DataW Unit) : Prop := ∃ es, D = .map es ∧ es.Pairwise (fun p q => p.1 ≠ q.1) ∧ ∀ p ∈ es, ∃ c : Int × Int, p.2 = oneD c ∧ (c.1 = 1 ∨ c.1 = 2 ∨ c.1 = 3)

theorem cntL_start (es : List (Lit × DataW Unit)) (hk : ∀ p ∈ es, WideAt.IsKeyLit p.1) (i : Int) : cntL es (Maps.has (.map es)) i = 0 := by
  unfold cntL
  rw [List.countP_eq_zero]
  intro p hp
  have : Maps.has (.map es) p.1 = true := by
    rw [Maps.has_eq, List.any_eq_true]
    exact ⟨p, hp, WideAt.sameKey_self (hk p hp)⟩
  simp [this]
theorem cntL_end (es : List (Lit × DataW Unit)) {left : Lit → Bool} (h : ∀ k, left k = false) (i : Int) : cntL es left i = cntE es i := by
  unfold cntL cntE
  congr 1; funext p; rw [h]; rfl
theorem cntL_step : ∀ {es : List (Lit × DataW Unit)} {left : Lit → Bool} {kl : Lit} {d : DataW Unit}, es.Pairwise (fun p q => p.1 ≠ q.1) → WideAt.IsKeyLit kl → left kl = true → (kl, d) ∈ es → ∀ i, cntL es (fun z => left z && !z.sameKey kl) i = cntL es left i + (if (stD d == i) = true then 1 else 0)
  | [], _, _, _, _, _, _, h, _ => by simp at h
  | p :: es, left, kl, d, hP, hk, hl, hm, i => by
    rw [List.pairwise_cons] at hP
    unfold cntL
    rw [List.countP_cons, List.countP_cons]
    rcases List.mem_cons.1 hm with rfl | hm'
    · have hs : (kl : Lit).sameKey kl = true := WideAt.sameKey_self hk
      have hrest : es.countP (fun q => !((left q.1) && !q.1.sameKey kl) && (stD q.2 == i)) = es.countP (fun q => !left q.1 && (stD q.2 == i)) := by
        apply List.countP_congr
        intro q hq
        have : q.1.sameKey kl = false := Maps.sameKey_ne (fun e => hP.1 q hq e.symm)
        simp [this]
      rw [hrest]
      simp [hs, hl]
    · have hne : p.1 ≠ kl := fun e => hP.1 (kl, d) hm' e
      have := cntL_step hP.2 hk hl hm' i
      unfold cntL at this
      rw [this]
      have hs : p.1.sameKey kl = false := Maps.sameKey_ne hne
      simp [hs]; omega
theorem mem_of_atKey {es : List (Lit × DataW Unit)} {kl : Lit} {d : DataW Unit} (h : ∀ z, (DataW.map es : DataW Unit).atKey kl z = d) : (kl, d) ∈ es := by
  have hh := Maps.has_true_of_atKey h
  rw [Maps.has_eq, List.any_eq_true] at hh
  obtain ⟨p, hp, hs⟩ := hh
  cases hf : es.find? (fun p => p.1.sameKey kl) with
  | none =>
    rw [List.find?_eq_none] at hf
    exact absurd hs (hf p hp)
  | some q =>
    have h1 := List.find?_some hf
    have h2 := List.mem_of_find?_eq_some hf
    have h3 := h d
    unfold DataW.atKey at h3
    simp only [hf] at h3
    have e1 : q.1 = kl := WideAt.sameKey_eq h1
    obtain ⟨a, b⟩ := q
    dsimp only at e1 h3
    subst e1 h3
    exact h2

set_option maxRecDepth 100000 in
set_option maxHeartbeats 8000000 in
theorem counts_any (g b n : Nat) (D : DataW Unit) (w : World) (hP : PSet w g b n D) (hG : Good D) (hn : n ≤ 1000000) :
    Calls Try.prog 15 #[.pointer (some ⟨g, 0, none⟩)] w fun e w' => e = .returned (.tuple #[.int .i64 (cntM D 1), .int .i64 (cntM D 2), .int .i64 (cntM D 3)]) ∧ PSet w' g b n D ∧ Below w.heap.size w w' := by
  obtain ⟨es, rfl, hpw, hst⟩ := hG
  obtain ⟨es', he', hpw', hkeys⟩ := hP.own.entries kint
  cases he'
  have HPW := Lib.hid hpw
  have HST := Lib.hid hst
  have HK := Lib.hid hkeys
  have hsz : es.length ≤ n := hP.own.size_le
  have HP := Lib.hid hP
  have HA := Lib.hid (show PSet (w.alloc (.cells #[.int .i64 0, .int .i64 0, .int .i64 0, .int .i64 0] 71)) g b n (.map es) from hP.kept (balloc (Below.refl _ _)))
  have c0 := HA.out.blk.cell
  have c0w := hP.blk.cell
  have hgl := hP.blk.lt
  have hbl := hP.own.lt
  clear hpw hst hkeys hP hpw'
  go_enter Try.func15, Try.ntmps15
  go_wp2_with (first
    | (at_range; refine wpList_range_own _ rfl _ 68 rfl 3 73 kint Try.underlying68 oneR b n _ rfl HA.out.own ?_; intro w0 hrg0 hg0 hs0))
  have HN := Lib.hid (show Blk w0 w.heap.size 71 #[.int .i64 0, .int .i64 0, .int .i64 0, .int .i64 0] from (hg0.block _ (by simp) (by simp)).trans (Blk.new w _ _))
  have HB0 := Lib.hid (show Below w.heap.size w w0 from bstep (balloc (Below.refl _ _)) ⟨hg0.os, hg0.tape, hg0.output, hg0.size, fun k hk => hg0.block k hk (by simp)⟩)
  have hs1 : (w.alloc (.cells #[.int .i64 0, .int .i64 0, .int .i64 0, .int .i64 0] 71)).heap.size = w.heap.size + 1 := by simp
  obtain ⟨r, hr⟩ : ∃ r, (w.alloc (.cells #[.int .i64 0, .int .i64 0, .int .i64 0, .int .i64 0] 71)).heap.size = r := ⟨_, rfl⟩
  rw [hr] at hrg0 ⊢
  have hrw : r = w.heap.size + 1 := by rw [← hr]; exact hs1
  have HRW := Lib.hid hrw
  have hZ := Lib.hid (cntL_start es HK.out)
  clear hs1 c0 c0w hr hrw
  go_frame
  go_loopw [15] (fun _ wr => ∃ (left : Lit → Bool) (cnt c1 c2 c3 : Nat), Hid (wr.ranges Try.prog 3 oneR b r n (.map es) left cnt) ∧ c1 ≤ 1000000 ∧ c2 ≤ 1000000 ∧ c3 ≤ 1000000 ∧ Hid (c1 = cntL es left 1 ∧ c2 = cntL es left 2 ∧ c3 = cntL es left 3) ∧ Blk wr w.heap.size 71 #[.int .i64 0, .int .i64 c1, .int .i64 c2, .int .i64 c3] ∧ Hid (Below w.heap.size w wr)) (fun _ wr => wr.rangeLeft b r)
  case atStart => exact ⟨_, _, 0, 0, 0, hrg0, by omega, by omega, by omega, ⟨(hZ.out 1).symm, (hZ.out 2).symm, (hZ.out 3).symm⟩, HN.out, HB0⟩
  case round =>
    obtain ⟨left, cnt, c1, c2, c3, HR, hc1, hc2, hc3, HC, bn, HB⟩ := hrel
    go_wp2_with (first
      | (at_next; refine wpList_next_ranges _ rfl _ rfl 3 kint oneR (Value.int .i64) oneV (fun key kl hk => by obtain ⟨x, e, _⟩ := keyOf_int_inv Try.underlying3 hk; exact ⟨x, e⟩) (fun v y hv => by obtain ⟨c, e, _⟩ := oneR_inv hv; exact ⟨c, e⟩) b r n _ _ _ rfl HR.out ?_ ?_))
    · intro h0 hl0
      obtain ⟨q1, q2, q3⟩ := HC.out
      rw [cntL_end es hl0] at q1 q2 q3
      have HQ := Lib.hid (show c1 = cntE es 1 ∧ c2 = cntE es 2 ∧ c3 = cntE es 3 from ⟨q1, q2, q3⟩)
      have HO := Lib.hid HR.out.owns
      clear q1 q2 q3 h0 hl0 HR HC
      have cn := bn.cell
      go_wp2_with fail
      go_quiet (fail)
      go_wp2
      go_ret3
      obtain ⟨q1, q2, q3⟩ := HQ.out
      exact ⟨by rw [q1, q2, q3]; rfl, ⟨HP.out.blk.later (bdrewN HB.out), HO.out, HP.out.ne⟩, bdrewN HB.out⟩
    · intro x s d kl y ys w1 cnt1 hkey hlk hy hat hrg1 hlt hg1 hs1 hen
      obtain ⟨x', ex, rfl, hwx⟩ := keyOf_int_inv Try.underlying3 hkey
      have hy1 : y = oneD (s, d) := by rw [oneR_mk] at hy; exact (congrArg Prod.fst (Option.some.inj hy)).symm
      have hm := mem_of_atKey (fun z => (hat z).trans hy1)
      obtain ⟨c, hc, hcs⟩ := HST.out _ hm
      have hsc : s = c.1 := congrArg stD hc
      have hss : s = 1 ∨ s = 2 ∨ s = 3 := by rw [hsc]; exact hcs
      have HSt := Lib.hid (cntL_step HPW.out (kl := .int .i64 x') trivial hlk hm)
      generalize hkl : (Lit.int .i64 x') = kl at *
      have HBw : Below w.heap.size w w1 := ⟨hg1.os.trans HB.out.os, hg1.tape.trans HB.out.tape, hg1.output.trans HB.out.output, Nat.le_trans HB.out.size hg1.size, fun k hk => (hg1.block k (by have := HB.out.size; omega) (fun e => by have := Option.some.inj e; have := HRW.out; omega)).trans (HB.out.block k hk)⟩
      have bn1 : Blk w1 w.heap.size 71 #[.int .i64 0, .int .i64 c1, .int .i64 c2, .int .i64 c3] := (hg1.block _ bn.lt (fun e => by have := Option.some.inj e; have := HRW.out; omega)).trans bn
      have cell1 := bn1.cell
      have hfr := bn1.frozen
      have hbs := HBw.size
      unfold oneV at hen
      dsimp only at hen
      clear hkey hy hat hy1 hm hc hcs hsc ex hkl
      have bn2 := bn1.later (balloc (o := .cells #[.int .i64 s, .int .i64 d] 73) (Below.refl _ _))
      have cell2 := bn2.cell
      rcases hss with es_ | es_ | es_
      · subst es_
        have hcb := cell1
        go_wp2_with (first
          | (refine ev_field (ty := 3) (x := .tmp 24) (y := .tmp 23) (g := w.heap.size) (i := 1) (v := .int .i64 ((c1 : Int) + 1)) ?_ ?_ ?_ ?_ ?_ ?_ ?_ bn2 ?_ ?_; (rfl); (rfl); (rfl); (rfl); (rfl); (rfl); (kernel_rfl); (simp)
             intro w3 b3 hb3))
        have hg3 : (w1.alloc (.cells #[.int .i64 1, .int .i64 d] 73)).grownBy w3 (some w.heap.size) := ⟨hb3.os, hb3.tape, hb3.output, by rw [hb3.size]; exact Nat.le_refl _, fun k _ hne => hb3.block k (fun e => hne (by rw [e]))⟩
        have hrg3 := (hrg1.alloc (.cells #[.int .i64 1, .int .i64 d] 73)).kept hg3 (fun e => by have := Option.some.inj e; omega) (fun e => by have := Option.some.inj e; have := HRW.out; omega)
        have HB3 := Lib.hid (show Below w.heap.size w w3 from (balloc HBw).trans (hb3.below (Nat.le_refl _)))
        have HC3 := Lib.hid (show (c1 + 1 = cntL es (fun z => left z && !z.sameKey kl) 1 ∧ c2 = cntL es (fun z => left z && !z.sameKey kl) 2 ∧ c3 = cntL es (fun z => left z && !z.sameKey kl) 3) by
          have e1 := HSt.out 1; have e2 := HSt.out 2; have e3 := HSt.out 3
          rw [stD_one] at e1 e2 e3
          obtain ⟨q1, q2, q3⟩ := HC.out
          refine ⟨?_, ?_, ?_⟩
          · rw [e1, ← q1]; rfl
          · rw [e2, ← q2]; rfl
          · rw [e3, ← q3]; rfl)
        have hl1 : cntL es (fun z => left z && !z.sameKey kl) 1 ≤ es.length := List.countP_le_length
        have hll : c1 + 1 ≤ 1000000 := by have := HC3.out; omega
        have hrr := HR.out.left_eq
        go_roundw
        case rel => exact ⟨_, cnt1, c1 + 1, c2, c3, hrg3, by omega, by omega, by omega, HC3, by first | exact b3 | simpa using b3, HB3⟩
        case measure => rw [hrg3.left_eq, hrr]; exact hlt
      · subst es_
        have hcb := cell1
        go_wp2_with (first
          | (refine ev_field (ty := 3) (x := .tmp 24) (y := .tmp 23) (g := w.heap.size) (i := 2) (v := .int .i64 ((c2 : Int) + 1)) ?_ ?_ ?_ ?_ ?_ ?_ ?_ bn2 ?_ ?_; (rfl); (rfl); (rfl); (rfl); (rfl); (rfl); (kernel_rfl); (simp)
             intro w3 b3 hb3))
        have hg3 : (w1.alloc (.cells #[.int .i64 2, .int .i64 d] 73)).grownBy w3 (some w.heap.size) := ⟨hb3.os, hb3.tape, hb3.output, by rw [hb3.size]; exact Nat.le_refl _, fun k _ hne => hb3.block k (fun e => hne (by rw [e]))⟩
        have hrg3 := (hrg1.alloc (.cells #[.int .i64 2, .int .i64 d] 73)).kept hg3 (fun e => by have := Option.some.inj e; omega) (fun e => by have := Option.some.inj e; have := HRW.out; omega)
        have HB3 := Lib.hid (show Below w.heap.size w w3 from (balloc HBw).trans (hb3.below (Nat.le_refl _)))
        have HC3 := Lib.hid (show (c1 = cntL es (fun z => left z && !z.sameKey kl) 1 ∧ c2 + 1 = cntL es (fun z => left z && !z.sameKey kl) 2 ∧ c3 = cntL es (fun z => left z && !z.sameKey kl) 3) by
          have e1 := HSt.out 1; have e2 := HSt.out 2; have e3 := HSt.out 3
          rw [stD_one] at e1 e2 e3
          obtain ⟨q1, q2, q3⟩ := HC.out
          refine ⟨?_, ?_, ?_⟩
          · rw [e1, ← q1]; rfl
          · rw [e2, ← q2]; rfl
          · rw [e3, ← q3]; rfl)
        have hl1 : cntL es (fun z => left z && !z.sameKey kl) 2 ≤ es.length := List.countP_le_length
        have hll : c2 + 1 ≤ 1000000 := by have := HC3.out; omega
        have hrr := HR.out.left_eq
        go_roundw
        case rel => exact ⟨_, cnt1, c1, c2 + 1, c3, hrg3, by omega, by omega, by omega, HC3, by first | exact b3 | simpa using b3, HB3⟩
        case measure => rw [hrg3.left_eq, hrr]; exact hlt
      · subst es_
        have hcb := cell1
        go_wp2_with (first
          | (refine ev_field (ty := 3) (x := .tmp 24) (y := .tmp 23) (g := w.heap.size) (i := 3) (v := .int .i64 ((c3 : Int) + 1)) ?_ ?_ ?_ ?_ ?_ ?_ ?_ bn2 ?_ ?_; (rfl); (rfl); (rfl); (rfl); (rfl); (rfl); (kernel_rfl); (simp)
             intro w3 b3 hb3))
        have hg3 : (w1.alloc (.cells #[.int .i64 3, .int .i64 d] 73)).grownBy w3 (some w.heap.size) := ⟨hb3.os, hb3.tape, hb3.output, by rw [hb3.size]; exact Nat.le_refl _, fun k _ hne => hb3.block k (fun e => hne (by rw [e]))⟩
        have hrg3 := (hrg1.alloc (.cells #[.int .i64 3, .int .i64 d] 73)).kept hg3 (fun e => by have := Option.some.inj e; omega) (fun e => by have := Option.some.inj e; have := HRW.out; omega)
        have HB3 := Lib.hid (show Below w.heap.size w w3 from (balloc HBw).trans (hb3.below (Nat.le_refl _)))
        have HC3 := Lib.hid (show (c1 = cntL es (fun z => left z && !z.sameKey kl) 1 ∧ c2 = cntL es (fun z => left z && !z.sameKey kl) 2 ∧ c3 + 1 = cntL es (fun z => left z && !z.sameKey kl) 3) by
          have e1 := HSt.out 1; have e2 := HSt.out 2; have e3 := HSt.out 3
          rw [stD_one] at e1 e2 e3
          obtain ⟨q1, q2, q3⟩ := HC.out
          refine ⟨?_, ?_, ?_⟩
          · rw [e1, ← q1]; rfl
          · rw [e2, ← q2]; rfl
          · rw [e3, ← q3]; rfl)
        have hl1 : cntL es (fun z => left z && !z.sameKey kl) 3 ≤ es.length := List.countP_le_length
        have hll : c3 + 1 ≤ 1000000 := by have := HC3.out; omega
        have hrr := HR.out.left_eq
        go_roundw
        case rel => exact ⟨_, cnt1, c1, c2, c3 + 1, hrg3, by omega, by omega, by omega, HC3, by first | exact b3 | simpa using b3, HB3⟩
        case measure => rw [hrg3.left_eq, hrr]; exact hlt

end Go.Proofs.Ytnlpohcnlmdocaa
