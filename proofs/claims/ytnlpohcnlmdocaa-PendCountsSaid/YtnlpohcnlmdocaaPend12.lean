/- The law PendCounts: its walk. -/
import Derived.Test.YtnlpohcnlmdocaaPend11
namespace Go.Proofs.Ytnlpohcnlmdocaa
open Go.RowKit Go.Shelf Go.Maps
set_option linter.unusedSimpArgs false
set_option linter.unusedVariables false

structure OpV where
  id : Int
  kind : Int
  due : Int
  ref : Int
  trim : Bool
/-- A record that is noted, at place k of block b from o on. -/
def OpAt (w : World) (b o k : Nat) (x : OpV) : Prop :=
  w.cell? ⟨b, o + k * 5, none⟩ = some (.int .i64 x.id) ∧ w.cell? ⟨b, o + k * 5 + 1, none⟩ = some (.int .i64 x.kind) ∧ w.cell? ⟨b, o + k * 5 + 2, none⟩ = some (.int .i64 x.due) ∧ w.cell? ⟨b, o + k * 5 + 3, none⟩ = some (.int .i64 x.ref) ∧ w.cell? ⟨b, o + k * 5 + 4, none⟩ = some (.bool x.trim)
def Ops (w : World) (A : Option Addr) (l : List OpV) : Prop := l ≠ [] → ∃ b o, A = some ⟨b, o, none⟩ ∧ ∀ k (h : k < l.length), OpAt w b o k l[k]
theorem OpAt.below {w w' : World} {b o k : Nat} {x : OpV} (h : OpAt w b o k x) (hb : Below w.heap.size w w') : OpAt w' b o k x := by
  obtain ⟨h0, h1, h2, h3, h4⟩ := h
  have hl := cell_lt h0
  exact ⟨(hb.cell (p := ⟨b, _, none⟩) hl).trans h0, (hb.cell (p := ⟨b, _, none⟩) hl).trans h1, (hb.cell (p := ⟨b, _, none⟩) hl).trans h2, (hb.cell (p := ⟨b, _, none⟩) hl).trans h3, (hb.cell (p := ⟨b, _, none⟩) hl).trans h4⟩
theorem Ops.below {w w' : World} {A : Option Addr} {l : List OpV} (h : Ops w A l) (hb : Below w.heap.size w w') : Ops w' A l := fun hl => by
  obtain ⟨b, o, e, hc⟩ := h hl
  exact ⟨b, o, e, fun k hk => (hc k hk).below hb⟩

set_option maxRecDepth 100000 in
set_option maxHeartbeats 16000000 in
theorem pcounts_walk (A : Option Addr) (c : Nat) (l : List OpV) (w : World) (hl : Ops w A l) (hwf : ∀ x ∈ l, (Lit.int .i64 x.id).wf = true ∧ (Lit.int .i64 x.ref).wf = true) :
    Calls Try.prog 4 #[.slice A l.length c] w fun e w' => e = .returned (.bool true) ∧ Below w.heap.size w w' := by
  have HL := Lib.hid hl
  have HW := Lib.hid hwf
  clear hl hwf
  go_enter Try.func4, Try.ntmps4
  go_wp2_with fail
  refine (awake17_any w).mono ?_
  rintro e w1 ⟨rfl, hb1⟩
  rcases Bool.eq_false_or_eq_true (decide ((200 : Int) < (l.length : Int))) with h3 | h3
  · go_wp2
    go_ret
    exact ⟨rfl, hb1⟩
  have hn : l.length ≤ 200 := by have := of_decide_eq_false h3; omega
  go_wp2_with fail
  refine (newP_any w1).mono ?_
  rintro e w2 ⟨⟨g, b, rfl, hP2, hg, hb⟩, hb2⟩
  have hgw : w.heap.size ≤ g := Nat.le_trans hb1.size hg
  have hbw : w.heap.size ≤ b := Nat.le_trans hb1.size hb
  have HB2 := Lib.hid (bstep hb1 hb2)
  have HP2 := Lib.hid hP2
  clear hb1 hb2 hP2 hg hb
  go_wp2
  go_loopw [4, 28] (fun mv i wr => ∃ (k : Nat) (D : DataW Unit), k ≤ l.length ∧ i = .int .i64 k ∧ mv = .int .i64 (Maps.size D) ∧ Hid (Good D ∧ PSet wr g b k D) ∧ Hid (Below w.heap.size w wr)) (fun _ i _ => l.length - (intOf i).toNat)
  case atStart => exact ⟨0, .map [], Nat.zero_le _, rfl, rfl, ⟨good_nil, HP2.out⟩, HB2⟩
  case round =>
    obtain ⟨k, D, hk, rfl, rfl, HD, HB⟩ := hrel
    have hds : Maps.size D ≤ k := HD.out.2.own.size_le
    by_cases hlt : k < l.length
    · obtain ⟨q, o, rfl, hc⟩ := (HL.out.below HB.out) (by intro e; subst e; simp at hlt)
      obtain ⟨c0, c1, c2, c3, c4⟩ := hc k hlt
      obtain ⟨hwi, hwr⟩ := HW.out l[k] (List.getElem_mem hlt)
      generalize l[k] = x at *
      clear hc
      have bx0 := Blk.new wr 33 #[.int .i64 x.id, .int .i64 x.kind, .int .i64 x.due, .int .i64 x.ref, .bool x.trim]
      have hPA := HD.out.2.kept (balloc (o := .cells #[.int .i64 x.id, .int .i64 x.kind, .int .i64 x.due, .int .i64 x.ref, .bool x.trim] 33) (Below.refl _ _))
      have hbl := HD.out.2.own.lt
      have hsum := cnt_total HD.out.1
      go_wp2_with fail
      refine (counts_any g b k D _ hPA HD.out.1 (by omega)).mono ?_
      rintro e w3 ⟨rfl, hP3, hb3⟩
      have HB3 := Lib.hid (bstep (balloc HB.out) hb3)
      have bx3 := bx0.later hb3
      have cx3 := bx3.cell
      clear c0 c1 c2 c3 c4 hb3 hPA bx0
      go_wp2_with fail
      refine (note_any g b k D x.id x.kind x.due x.ref w3 hP3 (by omega) hwi hwr).mono ?_
      rintro e w4 ⟨rfl, hP4, hg4⟩
      have HB4 := Lib.hid (below_turned HB3.out hg4 hbw)
      have bx4 : Blk w4 wr.heap.size 33 #[.int .i64 x.id, .int .i64 x.kind, .int .i64 x.due, .int .i64 x.ref, .bool x.trim] := (hg4.block _ bx3.lt (by intro e; have := Option.some.inj e; omega)).trans bx3
      have cx4 := bx4.cell
      clear cx3 bx3 hP3 hg4
      cases hN : noteN D x.id x.kind x.due x.ref with
      | none =>
        rw [hN, Option.getD_none] at hP4
        rw [Option.isSome_none]
        go_wp2_with fail
        refine (counts_any g b (k + 1) D _ hP4 HD.out.1 (by omega)).mono ?_
        rintro e w5 ⟨rfl, hP5, hb5⟩
        have HB5 := Lib.hid (bstep HB4.out hb5)
        have HD5 := Lib.hid (And.intro HD.out.1 hP5)
        generalize cntM D 1 = n1 at *
        generalize cntM D 2 = n2 at *
        generalize cntM D 3 = n3 at *
        have hsm : ((n1 : Int) + (n2 : Int) + (n3 : Int) != (Maps.size D : Int)) = false := by
          rw [bne_eq_false_iff_eq]; omega
        have hd1 : Maps.size D ≤ 200 := by omega
        have hmm : n1 ≤ 200 ∧ n2 ≤ 200 ∧ n3 ≤ 200 := by omega
        obtain ⟨hm1, hm2, hm3⟩ := hmm
        obtain ⟨sz, hsz⟩ : ∃ sz, Maps.size D = sz := ⟨_, rfl⟩
        rw [hsz] at hsm hd1 ⊢
        have HSZ := Lib.hid hsz
        clear cx4 bx4 hP4 hP5 hb5 hN hsz hsum hds
        go_wp2
        go_roundw
        case rel => exact ⟨k + 1, D, by omega, by go_num, by rw [HSZ.out], HD5, HB5⟩
        case measure => simp [intOf]; omega
      | some D' =>
        rw [hN, Option.getD_some] at hP4
        rw [Option.isSome_some]
        obtain ⟨hG', hsize⟩ := note_total HD.out.1 hN
        have hsum' := cnt_total hG'
        have hds' : Maps.size D' ≤ k + 1 := hP4.own.size_le
        go_wp2_with fail
        refine (counts_any g b (k + 1) D' _ hP4 hG' (by omega)).mono ?_
        rintro e w5 ⟨rfl, hP5, hb5⟩
        have HB5 := Lib.hid (bstep HB4.out hb5)
        have HD5 := Lib.hid (And.intro hG' hP5)
        have bx5 := bx4.later hb5
        have cx5 := bx5.cell
        generalize cntM D 1 = n1 at *
        generalize cntM D 2 = n2 at *
        generalize cntM D 3 = n3 at *
        generalize cntM D' 1 = m1 at *
        generalize cntM D' 2 = m2 at *
        generalize cntM D' 3 = m3 at *
        obtain ⟨sz, hsz⟩ : ∃ sz, Maps.size D = sz := ⟨_, rfl⟩
        obtain ⟨sz', hsz'⟩ : ∃ sz', Maps.size D' = sz' := ⟨_, rfl⟩
        rw [hsz] at hsum hds ⊢
        rw [hsz, hsz'] at hsize
        rw [hsz'] at hsum' hds'
        have HSZ := Lib.hid hsz'
        clear cx4 bx4 hP4 hP5 hb5 hN hsz hsz' bx5
        rcases Bool.eq_false_or_eq_true (x.kind == 2) with hk2 | hk2
        · have he : sz' = sz + 1 := by rw [hsize, if_pos (by simpa using hk2)]
          have hsm : ((m1 : Int) + (m2 : Int) + (m3 : Int) != (sz : Int) + 1) = false := by
            rw [bne_eq_false_iff_eq]; omega
          have hd1 : sz ≤ 200 := by omega
          have HE := Lib.hid he
          have hmm : m1 ≤ 201 ∧ m2 ≤ 201 ∧ m3 ≤ 201 := by omega
          obtain ⟨hm1, hm2, hm3⟩ := hmm
          clear he hsize hsum hsum' hds hds'
          go_wp2
          go_roundw
          case rel => exact ⟨k + 1, D', by omega, by go_num, by rw [HSZ.out, HE.out]; rfl, HD5, HB5⟩
          case measure => simp [intOf]; omega
        · have he : sz' = sz := by rw [hsize, if_neg (by simpa using hk2)]; rfl
          have hsm : ((m1 : Int) + (m2 : Int) + (m3 : Int) != (sz : Int)) = false := by
            rw [bne_eq_false_iff_eq]; omega
          have hd1 : sz ≤ 200 := by omega
          have HE := Lib.hid he
          have hmm : m1 ≤ 201 ∧ m2 ≤ 201 ∧ m3 ≤ 201 := by omega
          obtain ⟨hm1, hm2, hm3⟩ := hmm
          clear he hsize hsum hsum' hds hds'
          go_wp2
          go_roundw
          case rel => exact ⟨k + 1, D', by omega, by go_num, by rw [HSZ.out, HE.out], HD5, HB5⟩
          case measure => simp [intOf]; omega
    · obtain rfl : k = l.length := by omega
      clear hk hlt
      have hkd := intKeyed_of HD.out.2.own
      have hkw := keys_wf HD.out.2.own
      go_wp2_with fail
      refine (pending_any g b l.length D wr HD.out.2 (by omega)).mono ?_
      rintro e w3 ⟨A3, c3, p, rfl, hpp, hso, hpc, hP3, hb3⟩
      have hndp : p.Nodup := hpp.nodup_iff.2 (keep_nodup (keys_nodup HD.out.1 hkd))
      have hplen : p.length = cntM D 1 := by rw [hpp.length_eq, keep_len HD.out.1 hkd]
      have hpst : ∀ x ∈ p, (st D x).1 = 1 := fun x hx => keep_st (hpp.mem_iff.1 hx)
      have hpwf : ∀ x ∈ p, (Lit.int .i64 x).wf = true := fun x hx => hkw x (List.mem_filter.1 (hpp.mem_iff.1 hx)).1
      have hsum := cnt_total HD.out.1
      have hpl : p.length ≤ 200 := by omega
      go_wp2_with fail
      refine (counts_any g b l.length D w3 hP3 HD.out.1 (by omega)).mono ?_
      rintro e w4 ⟨rfl, hP4, hb4⟩
      have HP4 := Lib.hid hP4
      have HB4 := Lib.hid (bstep (HB.out.trans (hb3.mono HB.out.size)) hb4)
      have HPC := Lib.hid (show p ≠ [] → ∃ q, A3 = some ⟨q, 0, none⟩ ∧ ∀ j (h : j < p.length), w4.cell? ⟨q, j, none⟩ = some (.int .i64 p[j]) from fun h => by
        obtain ⟨q, e, hc⟩ := hpc h
        exact ⟨q, e, fun j hj => (hb4.cell (p := ⟨q, j, none⟩) (cell_lt (hc j hj))).trans (hc j hj)⟩)
      have HSO := Lib.hid (fun i j (hi : i < j) (hj : j < p.length) => side hndp hi hj (hso i j hi hj))
      have HST := Lib.hid hpst
      have HWF := Lib.hid hpwf
      have HPL := Lib.hid hplen
      rw [← hplen]
      clear hpp hso hpc hP3 hb3 hndp hplen hpst hpwf hsum hP4 hb4 hkd hkw HD HB hds HL HW
      go_wp2
      go_loop [98] (fun i => ∃ j : Nat, j ≤ p.length ∧ i = .int .i64 j) (fun i => p.length - (intOf i).toNat)
      case atStart => exact ⟨0, Nat.zero_le _, rfl⟩
      case round =>
        obtain ⟨j, hj, rfl⟩ := hrel
        by_cases hlt : j < p.length
        · obtain ⟨q, rfl, hc⟩ := HPC.out (by intro e; subst e; simp at hlt)
          have hcj := hc j hlt
          have hst := HST.out p[j] (List.getElem_mem hlt)
          have hw := HWF.out p[j] (List.getElem_mem hlt)
          rcases Nat.eq_zero_or_pos j with h0 | h0
          · subst h0
            generalize p[0] = x at *
            have HS := Lib.hid (state_any g b l.length D x w4 HP4.out hw)
            rw [hst] at HS
            clear hc hst
            go_wp2_with (go_at_call 18; refine HS.out.mono ?_; rintro e w' ⟨rfl, rfl⟩)
            go_round
            case rel => exact ⟨1, by omega, by go_num⟩
            case measure => simp [intOf]; omega
          · have hci := hc (j - 1) (by omega)
            obtain ⟨hd, hne⟩ := HSO.out (j - 1) j (by omega) hlt
            have hwi := HWF.out (p[j - 1]'(by omega)) (List.getElem_mem (by omega))
            have hi0 : (0 : Int) ≤ (j : Int) - 1 := by omega
            have hi1 : (j : Int) - 1 < (p.length : Int) := by omega
            have hi2 : decide ((0 : Int) < (j : Int)) = true := decide_eq_true (by omega)
            generalize p[j] = x at *
            generalize p[j - 1]'(by omega) = y at *
            have HS := Lib.hid (state_any g b l.length D x w4 HP4.out hw)
            rw [hst] at HS
            have HDx := Lib.hid (due_any g b l.length D x w4 HP4.out hw)
            have HDy := Lib.hid (due_any g b l.length D y w4 HP4.out hwi)
            have d1 : decide (dueL D x < dueL D y) = false := decide_eq_false (by omega)
            have d2 : (y == x) = false := by rw [beq_eq_false_iff_ne]; exact hne
            clear hc hst hd hne
            go_wp2_with fail
            refine HS.out.mono ?_
            rintro e w' ⟨rfl, rfl⟩
            go_wp2_with fail
            refine HDy.out.mono ?_
            rintro e w' ⟨rfl, rfl⟩
            go_wp2_with fail
            refine HDx.out.mono ?_
            rintro e w' ⟨rfl, rfl⟩
            go_wp2
            go_round
            case rel => exact ⟨j + 1, by omega, by go_num⟩
            case measure => simp [intOf]; omega
        · obtain rfl : j = p.length := by omega
          go_wp2
          go_ret
          exact ⟨rfl, HB4.out⟩

end Go.Proofs.Ytnlpohcnlmdocaa
