/- What is still to come: Pending. -/
import Derived.Test.YtnlpohcnlmdocaaPend7
namespace Go.Proofs.Ytnlpohcnlmdocaa
open Go.RowKit Go.Shelf Go.Maps Go.Sort
set_option linter.unusedSimpArgs false
set_option linter.unusedVariables false

theorem keys_wf {w : World} {b n : Nat} {D : DataW Unit} (h : w.ownsMap Try.prog 3 oneR b n D) : Wf (intKeys D) := by
  obtain ⟨es0, clock, hb, F, hs, rfl⟩ := h
  intro x hx
  unfold intKeys at hx
  obtain ⟨p, hp, rfl⟩ := List.mem_map.1 hx
  have hm := mem_sorted.1 hp
  obtain ⟨v, hv⟩ := fit_keys F p hm
  obtain ⟨y, _, e, hw⟩ := keyOf_int_inv Try.underlying3 hv
  rw [e]; exact hw

set_option maxRecDepth 100000 in
theorem idxNil_any (fv : Value) (w : World) :
    Calls Try.prog 67 #[.slice none 0 0, fv] w fun e w' => e = .returned (.int .i64 (-1)) ∧ w = w' := by
  go_enter Try.func67, Try.ntmps67
  go_wp2
  go_loop [8] (fun i => i = .int .i64 0) (fun _ => 0)
  case atStart => rfl
  case round =>
    subst hrel
    go_wp2
    go_ret
    exact ⟨rfl, rfl⟩
set_option maxRecDepth 100000 in
theorem delNil_any (fv : Value) (w : World) :
    Calls Try.prog 37 #[.slice none 0 0, fv] w fun e w' => e = .returned (.slice none 0 0) ∧ w = w' := by
  go_enter Try.func37, Try.ntmps37
  go_wp2_with (go_at_call 67; refine (idxNil_any _ _).mono ?_; rintro e w' ⟨rfl, rfl⟩)
  go_ret
  exact ⟨rfl, rfl⟩

set_option maxRecDepth 100000 in
theorem insNil_any (fv : Value) (w : World) :
    Calls Try.prog 90 #[.slice none 0 0, .int .i64 0, .int .i64 0, fv] w fun e w' => e = .returned (.tuple #[]) ∧ w = w' := by
  go_enter Try.func90, Try.ntmps90
  go_wp2
  refine wp_loop_rounds 1 ?_
  rw [rounds_succ]
  go_wp2
  go_end0
  exact ⟨rfl, rfl⟩
set_option maxRecDepth 100000 in
theorem pdqNil_any (fv : Value) (lim : Int) (w : World) :
    Calls Try.prog 68 #[.slice none 0 0, .int .i64 0, .int .i64 0, .int .i64 lim, fv] w fun e w' => e = .returned (.tuple #[]) ∧ w = w' := by
  go_enter Try.func68, Try.ntmps68
  go_wp2
  refine wp_loop_rounds 1 ?_
  rw [rounds_succ]
  go_wp2_with fail
  refine (insNil_any _ _).mono ?_
  rintro e w' ⟨rfl, rfl⟩
  go_wp2
  refine bodyPost_ret (results_none rfl _ _ _) rfl ?_
  exact ⟨rfl, rfl⟩
set_option maxRecDepth 100000 in
theorem sortNil_any (fv : Value) (w : World) :
    Calls Try.prog 39 #[.slice none 0 0, fv] w fun e w' => e = .returned (.tuple #[]) ∧ w = w' := by
  go_enter Try.func39, Try.ntmps39
  go_wp2_with fail
  refine (Try.bits_Len 0 _ (by decide) (by decide)).mono ?_
  rintro e w' ⟨rfl, rfl⟩
  go_wp2_with fail
  refine (pdqNil_any _ _ _).mono ?_
  rintro e w' ⟨rfl, rfl⟩
  go_wp2
  go_end0
  exact ⟨rfl, rfl⟩

/-- What Pending hands back. -/
def PendPost (g b n : Nat) (D : DataW Unit) (w : World) (e : Ending) (w' : World) : Prop :=
  ∃ (A : Option Addr) (c : Nat) (p : List Int), e = .returned (.slice A p.length c) ∧ p.Perm (keepL D (intKeys D)) ∧ (∀ i j (hi : i < j) (hj : j < p.length), ¬ ahead2 D p[j] (p[i]'(by omega))) ∧
    (p ≠ [] → ∃ q, A = some ⟨q, 0, none⟩ ∧ ∀ j (h : j < p.length), w'.cell? ⟨q, j, none⟩ = some (.int .i64 p[j])) ∧ PSet w' g b n D ∧ Below w.heap.size w w'

set_option maxRecDepth 100000 in
set_option maxHeartbeats 8000000 in
theorem pending_any (g b n : Nat) (D : DataW Unit) (w : World) (hP : PSet w g b n D) (hn : n ≤ 1000000) :
    Calls Try.prog 17 #[.pointer (some ⟨g, 0, none⟩)] w (PendPost g b n D w) := by
  have hgl := hP.blk.lt
  have hbl := hP.own.lt
  have hwf := keys_wf hP.own
  have hsz : Maps.size D ≤ n := hP.own.size_le
  have hlen : (intKeys D).length ≤ n := by
    obtain ⟨es, rfl, _, _⟩ := hP.own.entries kint
    unfold intKeys; rw [List.length_map]; exact hsz
  have bs0 := Blk.new w 30 #[.pointer (some ⟨g, 0, none⟩)]
  have hP1 := hP.kept (balloc (o := .cells #[.pointer (some ⟨g, 0, none⟩)] 30) (Below.refl _ _))
  have cs0 := bs0.cell
  have cg0 := hP1.blk.cell
  have HP := Lib.hid hP
  have HP1 := Lib.hid hP1
  have HB0 := Lib.hid bs0
  have HWF := Lib.hid hwf
  clear hP hP1 hwf
  go_enter Try.func17, Try.ntmps17
  have HBA := Lib.hid (show Below w.heap.size w (w.alloc (.cells #[.pointer (some ⟨g, 0, none⟩)] 30)) from balloc (Below.refl _ _))
  have HSA := Lib.hid (show (w.alloc (.cells #[.pointer (some ⟨g, 0, none⟩)] 30)).heap.size = w.heap.size + 1 by simp)
  go_wp2_with fail
  generalize w.alloc (.cells #[.pointer (some ⟨g, 0, none⟩)] 30) = wA at *
  refine (keysP_any b _).mono ?_
  rintro e w1 ⟨rfl, rfl⟩
  go_wp2_with fail
  refine (collectP_any b n D _ HP1.out.own hn).mono ?_
  rintro e w2 ⟨v, ss, rfl, hperm, hrow, hb2⟩
  have HB2 := Lib.hid (show Below w.heap.size w w2 from bstep (balloc HBA.out) hb2)
  have bs2 := (HB0.out.later (balloc (Below.refl _ _))).later hb2
  have cs2 := bs2.cell
  have hP2 := HP.out.kept HB2.out
  have HP2 := Lib.hid hP2
  have hwf : Wf ss := fun x hx => HWF.out x (hperm.mem_iff.1 hx)
  have hsl : ss.length ≤ 1000000 := by have := hperm.length_eq; omega
  have HPM := Lib.hid hperm
  clear hperm hP2 HP1 cs0 cg0
  rcases hrow.2 with ⟨rfl, hz⟩ | ⟨q, cap, cur, rfl, hbase, _⟩
  · have hss : ss = [] := List.length_eq_zero_iff.1 hz
    subst hss
    have hkn : intKeys D = [] := HPM.out.symm.eq_nil
    clear hrow
    go_wp2_with (first
      | (go_at_call 37; refine (delNil_any _ _).mono ?_; rintro e w3 ⟨rfl, rfl⟩)
      | (go_at_call 39; refine (sortNil_any _ _).mono ?_; rintro e w3 ⟨rfl, rfl⟩))
    go_ret
    exact ⟨none, 0, [], rfl, by rw [hkn]; exact List.Perm.refl _, by intro i j hi hj; simp at hj, by intro h; exact absurd rfl h, HP2.out, HB2.out⟩
  · have hqs : w.heap.size + 2 ≤ q := by have := HSA.out; simp at hbase; omega
    have hrow2 := Lib.hid hrow
    have hdel := Lib.hid (delete_any _ g b n D q cap ss w2 HP2.out hrow (by omega) (by omega) hwf hsl)
    clear hrow
    go_wp2_with fail
    refine hdel.out.mono ?_
    rintro e w3 ⟨rfl, hrow3, hg3⟩
    have hP3 := HP2.out.far hg3 (by omega) (by omega)
    have hb3 : Below w.heap.size w2 w3 := ⟨hg3.os, hg3.tape, hg3.output, hg3.size, fun k hk => hg3.block k (by have := HB2.out.size; omega) (by intro e; have := Option.some.inj e; omega)⟩
    have HB3 := Lib.hid (HB2.out.trans hb3)
    have bs3 : Blk w3 w.heap.size 30 #[.pointer (some ⟨g, 0, none⟩)] := (hg3.block _ bs2.lt (by intro e; have := Option.some.inj e; omega)).trans bs2
    have hwk : Wf (keepL D ss) := fun x hx => hwf x (List.mem_filter.1 hx).1
    have hkl : (keepL D ss).length ≤ 1000000 := Nat.le_trans (List.length_filter_le _ _) hsl
    have hsort := Lib.hid (sortP_any _ g b n D w.heap.size q cap (keepL D ss) w3 hP3 (bs3.cell 0) hrow3 (by omega) (by omega) (by omega) hwk hkl)
    have HPk := Lib.hid (show (keepL D ss).Perm (keepL D (intKeys D)) from HPM.out.filter _)
    have HP3 := Lib.hid hP3
    have cs3 := bs3.cell
    clear hdel hrow3 hP3
    go_wp2_with fail
    refine hsort.out.mono ?_
    rintro e w4 ⟨rfl, p, hpp, hso, hpc, hg4⟩
    have hpl := hpp.length_eq
    have hb4 : Below w.heap.size w3 w4 := ⟨hg4.os, hg4.tape, hg4.output, hg4.size, fun k hk => hg4.block k (by have := HB3.out.size; omega) (by intro e; have := Option.some.inj e; omega)⟩
    have HX := Lib.hid (show p.Perm (keepL D (intKeys D)) ∧ (∀ i j (hi : i < j) (hj : j < p.length), ¬ ahead2 D p[j] (p[i]'(by omega))) ∧ (p ≠ [] → ∃ q', some (Addr.mk q 0 none) = some ⟨q', 0, none⟩ ∧ ∀ j (h : j < p.length), w4.cell? ⟨q', j, none⟩ = some (.int .i64 p[j])) ∧ PSet w4 g b n D ∧ Below w.heap.size w w4 from
      ⟨hpp.trans HPk.out, hso, fun _ => ⟨q, rfl, hpc⟩, HP3.out.far hg4 (by omega) (by omega), HB3.out.trans hb4⟩)
    clear hpp hso hpc hg4 hb4
    go_wp2
    go_ret
    exact ⟨some ⟨q, 0, none⟩, cap, p, (show Ending.returned (.slice (some ⟨q, 0, none⟩) (keepL D ss).length cap) = _ by rw [hpl]), HX.out⟩

end Go.Proofs.Ytnlpohcnlmdocaa
