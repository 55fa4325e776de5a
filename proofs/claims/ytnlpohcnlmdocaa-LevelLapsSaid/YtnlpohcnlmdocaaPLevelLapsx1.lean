-- PRINTED BY print.sh 35421559b90ae4d0a3588c463048766b98c2df88dd9212a6774a882060cdf62d: not written by this session
import Derived.Test.YtnlpohcnlmdocaaPLevelLapsx0
namespace Go.Proofs.Ytnlpohcnlmdocaa.PLevelLaps
open Go.RowKit Go.Proofs.YtnlpohcnlmdocaaW.PrintWords Go.Proofs.YtnlpohcnlmdocaaW.PrintLast Go.Proofs.YtnlpohcnlmdocaaW.PrintMore
attribute [local go_sem] max2_int min2_int max_two min_two max_three min_three max_four min_four   -- for this text's walks alone
set_option linter.unusedVariables false
set_option linter.unusedSimpArgs false

/-! ### level_Slot: function 10 -/
def level_Slot.f (a0 : Int) : Option (Int) := some ((mx a0 0) % 16)
set_option maxHeartbeats 8000000 in
set_option maxRecDepth 100000 in
theorem level_Slot.calls (a0 : Int) (r : Int) (w : World) (h : level_Slot.f a0 = some r) :
    Calls Try.prog 10 #[.int .i64 a0] w fun e w' => e = .returned (.int .i64 r) ∧ Below w.heap.size w w' := by
  have HB := Aside0.mk (Below.refl w.heap.size w)
  have H : (some ((mx a0 0) % 16)) = some r := h
  clear h
  obtain ⟨ji2, hji2⟩ : ∃ j_ : Int, (mx a0 0) = j_ := ⟨_, rfl⟩
  replace H : (some ((ji2) % 16)) = some r := by first | (rw [hji2] at H; exact H) | (simp only [hji2] at H ⊢; exact H)
  (try (have hji2l : 0 ≤ ji2 := by (rw [← hji2]; unfold mx; (repeat' split) <;> omega)))
  (try (have hji2m : 0 ≤ ji2 := by omega))
  have hji2_ : (if a0 < 0 then 0 else a0) = ji2 := hji2
  obtain rfl := Option.some.inj H
  go_enter Try.func10, Try.ntmps10
  go_wp2
  go_ret
  exact ⟨by first | rfl | (simp [errW_none, errW_some] <;> rfl) | (simp only [← hji2]; first | rfl | (simp [errW_none, errW_some] <;> rfl)) | (simp [*, errW_none, errW_some] <;> rfl), by repeat (first | (with_reducible first | exact HB.out | apply below_alloc | apply pw_below_drewN | apply below_drew1) | exact HB.out)⟩

/-! ### level_Delay: function 26 -/
def level_Delay.f (a0 : Int) : Option (Int) := if a0 < 1 then (some 0) else (if a0 > 4 then (some 0) else (if 0 ≤ a0 then (some (shl .i64 1 a0)) else (none)))
set_option maxHeartbeats 8000000 in
set_option maxRecDepth 100000 in
theorem level_Delay.calls (a0 : Int) (r : Int) (w : World) (h : level_Delay.f a0 = some r) :
    Calls Try.prog 26 #[.int .i64 a0] w fun e w' => e = .returned (.int .i64 r) ∧ Drawn0 w w' := by
  have H : (if a0 < 1 then (some 0) else (if a0 > 4 then (some 0) else (if 0 ≤ a0 then (some (shl .i64 1 a0)) else (none)))) = some r := h
  clear h
  by_cases c2 : a0 < 1
  · rw [if_pos c2] at H
    have c2b0 : decide (a0 < 1) = true := decide_eq_true c2
    clear c2
    obtain rfl := Option.some.inj H
    go_enter Try.func26, Try.ntmps26
    go_wp2
    go_ret
    exact ⟨by first | rfl | (simp; done) | (simp [*]; done), by repeat (first | exact Drawn0.refl _ | apply Drawn0.step)⟩
  · rw [if_neg c2] at H
    have c2b0 : decide (a0 < 1) = false := decide_eq_false c2
    clear c2
    by_cases c3 : a0 > 4
    · rw [if_pos c3] at H
      have c3b0 : decide (4 < a0) = true := decide_eq_true c3
      clear c3
      obtain rfl := Option.some.inj H
      go_enter Try.func26, Try.ntmps26
      go_wp2
      go_ret
      exact ⟨by first | rfl | (simp; done) | (simp [*]; done), by repeat (first | exact Drawn0.refl _ | apply Drawn0.step)⟩
    · rw [if_neg c3] at H
      have c3b0 : decide (4 < a0) = false := decide_eq_false c3
      clear c3
      by_cases c4 : 0 ≤ a0
      · rw [if_pos c4] at H
        have c4b0 := eq_true c4
        have c4b1 : decide (0 ≤ a0) = true := decide_eq_true c4
        clear c4
        obtain ⟨ji5, hji5⟩ : ∃ j_ : Int, (shl .i64 1 a0) = j_ := ⟨_, rfl⟩
        replace H : (some ji5) = some r := by first | (rw [hji5] at H; exact H) | (simp only [hji5] at H ⊢; exact H)
        have hji5_ : (IntKind.i64.wrap (1 * 2 ^ min a0.toNat 64)) = ji5 := hji5
        have hji5z : a0 ≤ 64 → (IntKind.i64.wrap (1 * 2 ^ a0.toNat)) = ji5 := shl_small hji5
        have hji5u : (IntKind.i64.wrap (2 ^ min a0.toNat 64)) = ji5 := by have h_ := hji5_; rw [Int.one_mul] at h_; exact h_
        have hji5v : a0 ≤ 64 → (IntKind.i64.wrap (2 ^ a0.toNat)) = ji5 := fun hle_ => by have h_ := hji5z hle_; rw [Int.one_mul] at h_; exact h_
        have hji5y : (wrap64 (1 * 2 ^ min a0.toNat 64)) = ji5 := (i64_w _).symm.trans hji5_
        have hji5x : a0 ≤ 64 → (wrap64 (1 * 2 ^ a0.toNat)) = ji5 := fun h_ => (i64_w _).symm.trans (hji5z h_)
        obtain rfl := Option.some.inj H
        go_enter Try.func26, Try.ntmps26
        go_wp2
        go_ret
        exact ⟨by first | rfl | (simp; done) | (simp only [← hji5] <;> (first | rfl | simp)) | (simp [*]; done), by repeat (first | exact Drawn0.refl _ | apply Drawn0.step)⟩
      · rw [if_neg c4] at H
        exact absurd H (by simp)

/-! ### reveillelaw12_awake: function 9 -/
def reveillelaw12_awake.f  : Option (Bool) := (level_Delay.f 3).bind fun t101 => (if t101 = 8 then ((level_Slot.f 17).bind fun t102 => (some (t102 == 1))) else (some false))
set_option maxHeartbeats 8000000 in
set_option maxRecDepth 100000 in
theorem reveillelaw12_awake.calls  (r : Bool) (w : World) (h : reveillelaw12_awake.f  = some r) :
    Calls Try.prog 9 #[] w fun e w' => e = .returned (.bool r) ∧ Below w.heap.size w w' := by
  have HB := Aside0.mk (Below.refl w.heap.size w)
  have H : ((level_Delay.f 3).bind fun t101 => (if t101 = 8 then ((level_Slot.f 17).bind fun t102 => (some (t102 == 1))) else (some false))) = some r := h
  clear h
  replace H := Option.bind_eq_some_iff.mp H
  obtain ⟨t101, A10, H⟩ := H
  replace H : (if t101 = 8 then ((level_Slot.f 17).bind fun t102 => (some (t102 == 1))) else (some false)) = some r := H
  have A1 := Aside0.mk A10
  clear A10
  by_cases c2 : t101 = 8
  · rw [if_pos c2] at H
    have c2b0 : (t101 == 8) = true := beq_iff_eq.mpr c2
    have c2b1 : (t101 != 8) = false := bne_eq_false_iff_eq.mpr c2
    clear c2
    replace H := Option.bind_eq_some_iff.mp H
    obtain ⟨t102, A30, H⟩ := H
    replace H : (some (t102 == 1)) = some r := H
    have A3 := Aside0.mk A30
    clear A30
    obtain rfl := Option.some.inj H
    go_enter Try.func9, Try.ntmps9
    go_wp2_with (first | ((with_reducible refine gate_callee (f := 26) rfl ?_); refine goesL_ (some 1) rfl rfl Try.func26 (by kernel_rfl) rfl #[.int .i64 3] rfl (by (try simp only [List.map_toArray, List.map_cons, List.map_nil]); first | done | rfl | (simp only [List.length_drop, List.length_take]; rfl)) ?_; (with_reducible refine (level_Delay.calls 3 t101 _ A1.out).mono ?_); rintro e w' ⟨rfl, ⟨nd, rfl⟩⟩; refine ⟨_, rfl, ?_⟩) | (go_at_call 10; (with_reducible refine (level_Slot.calls 17 t102 _ A3.out).mono ?_); rintro e w4 ⟨rfl, hb⟩; have n0_ := Aside0.mk (below_step (by repeat (first | (with_reducible first | exact HB.out | apply below_alloc | apply pw_below_drewN | apply below_drew1) | exact HB.out)) hb); clear HB; have HB := n0_; clear n0_; (try clear hb); (try clear hb2); (try clear hk); (try clear hi)))
    go_ret
    exact ⟨by first | rfl | (simp [errW_none, errW_some] <;> rfl) | (simp [*, errW_none, errW_some] <;> rfl), by repeat (first | (with_reducible first | exact HB.out | apply below_alloc | apply pw_below_drewN | apply below_drew1) | exact HB.out)⟩
  · rw [if_neg c2] at H
    have c2b0 : (t101 == 8) = false := beq_eq_false_iff_ne.mpr c2
    have c2b1 : (t101 != 8) = true := bne_iff_ne.mpr c2
    obtain rfl := Option.some.inj H
    go_enter Try.func9, Try.ntmps9
    go_wp2_with (first | ((with_reducible refine gate_callee (f := 26) rfl ?_); refine goesL_ (some 1) rfl rfl Try.func26 (by kernel_rfl) rfl #[.int .i64 3] rfl (by (try simp only [List.map_toArray, List.map_cons, List.map_nil]); first | done | rfl | (simp only [List.length_drop, List.length_take]; rfl)) ?_; (with_reducible refine (level_Delay.calls 3 t101 _ A1.out).mono ?_); rintro e w' ⟨rfl, ⟨nd, rfl⟩⟩; refine ⟨_, rfl, ?_⟩))
    go_ret
    exact ⟨by first | rfl | (simp [errW_none, errW_some] <;> rfl) | (simp [*, errW_none, errW_some] <;> rfl), by repeat (first | (with_reducible first | exact HB.out | apply below_alloc | apply pw_below_drewN | apply below_drew1) | exact HB.out)⟩

/-! ### level_Laps: function 11 -/
def level_Laps.f (a0 : Int) (a1 : Int) : Option (Int) := if a0 ≤ a1 then (some 0) else (some (wrap64 (IntKind.u64.wrap (Int.tdiv (IntKind.u64.wrap ((IntKind.u64.wrap (a0)) - (IntKind.u64.wrap (a1)))) 16))))
set_option maxHeartbeats 8000000 in
set_option maxRecDepth 100000 in
theorem level_Laps.calls (a0 : Int) (a1 : Int) (r : Int) (w : World) (h : level_Laps.f a0 a1 = some r) :
    Calls Try.prog 11 #[.int .i64 a0, .int .i64 a1] w fun e w' => e = .returned (.int .i64 r) ∧ Drawn0 w w' := by
  have H : (if a0 ≤ a1 then (some 0) else (some (wrap64 (IntKind.u64.wrap (Int.tdiv (IntKind.u64.wrap ((IntKind.u64.wrap (a0)) - (IntKind.u64.wrap (a1)))) 16))))) = some r := h
  clear h
  by_cases c3 : a0 ≤ a1
  · rw [if_pos c3] at H
    have c3b0 : decide (a0 ≤ a1) = true := decide_eq_true c3
    clear c3
    obtain rfl := Option.some.inj H
    go_enter Try.func11, Try.ntmps11
    go_wp2
    go_ret
    exact ⟨by first | rfl | (simp; done) | (simp [*]; done), by repeat (first | exact Drawn0.refl _ | apply Drawn0.step)⟩
  · rw [if_neg c3] at H
    have c3b0 : decide (a0 ≤ a1) = false := decide_eq_false c3
    clear c3
    obtain rfl := Option.some.inj H
    go_enter Try.func11, Try.ntmps11
    go_wp2
    go_ret
    exact ⟨by first | rfl | (simp; done) | (simp [*]; done), by repeat (first | exact Drawn0.refl _ | apply Drawn0.step)⟩

/-! ### level_Far: function 12 -/
def level_Far.f (a0 : Int) (a1 : Int) : Option (Bool) := (level_Laps.f a0 a1).bind fun t103 => (some (decide (t103 > 0)))
set_option maxHeartbeats 8000000 in
set_option maxRecDepth 100000 in
theorem level_Far.calls (a0 : Int) (a1 : Int) (r : Bool) (w : World) (h : level_Far.f a0 a1 = some r) :
    Calls Try.prog 12 #[.int .i64 a0, .int .i64 a1] w fun e w' => e = .returned (.bool r) ∧ Drawn0 w w' := by
  have H : ((level_Laps.f a0 a1).bind fun t103 => (some (decide (t103 > 0)))) = some r := h
  clear h
  replace H := Option.bind_eq_some_iff.mp H
  obtain ⟨t103, A30, H⟩ := H
  replace H : (some (decide (t103 > 0))) = some r := H
  have A3 := Aside0.mk A30
  clear A30
  obtain rfl := Option.some.inj H
  go_enter Try.func12, Try.ntmps12
  go_wp2_with (first | ((with_reducible refine gate_callee (f := 11) rfl ?_); refine goesL_ (some 7) rfl rfl Try.func11 (by kernel_rfl) rfl #[.int .i64 a0, .int .i64 a1] rfl (by (try simp only [List.map_toArray, List.map_cons, List.map_nil]); first | done | rfl | (simp only [List.length_drop, List.length_take]; rfl)) ?_; (with_reducible refine (level_Laps.calls a0 a1 t103 _ A3.out).mono ?_); rintro e w' ⟨rfl, ⟨nd, rfl⟩⟩; refine ⟨_, rfl, ?_⟩))
  go_ret
  exact ⟨by first | rfl | (simp; done) | (simp [*]; done), by repeat (first | exact Drawn0.refl _ | apply Drawn0.step)⟩

/-! ### reveillelaw12_LevelLaps: function 3 -/
def reveillelaw12_LevelLaps.j0 : Nat → Int → Int → Int → Bool → Option (Bool)
  | 0, _, _, _, _ => none
  | k + 1, x7, x8, x9, x50 => if x50 = true then (some false) else ((level_Far.f x8 x7).bind fun t109 => ((level_Laps.f x8 x7).bind fun t110 => (if (t109 == (decide (t110 > 0))) = true then ((level_Far.f x8 x7).bind fun t111 => (if t111 = true then (if x8 ≥ (wrap64 (x7 + 16)) then (if x8 > x9 then (some true) else ((level_Laps.f x8 x7).bind fun t112 => ((level_Laps.f x9 x7).bind fun t113 => (some (decide (t112 ≤ t113)))))) else (some false)) else (if x8 > x9 then (some true) else ((level_Laps.f x8 x7).bind fun t114 => ((level_Laps.f x9 x7).bind fun t115 => (some (decide (t114 ≤ t115)))))))) else (some false))))
def reveillelaw12_LevelLaps.f (k : Nat) (a0 : Int) (a1 : Int) (a2 : Int) : Option (Bool) := (reveillelaw12_awake.f).bind fun t104 => (if t104 = true then ((level_Slot.f (wrap64 ((wrap64 (a0)) + (wrap64 (a1))))).bind fun t105 => ((level_Slot.f (wrap64 ((wrap64 (a0)) + (wrap64 (a2))))).bind fun t106 => (if ((t105 == t106) != ((Int.tmod (wrap64 ((wrap64 ((wrap64 (a0)) + (wrap64 (a1)))) - (wrap64 ((wrap64 (a0)) + (wrap64 (a2)))))) 16) == 0)) = true then (reveillelaw12_LevelLaps.j0 k (wrap64 (a0)) (wrap64 ((wrap64 (a0)) + (wrap64 (a1)))) (wrap64 ((wrap64 (a0)) + (wrap64 (a2)))) true) else (if (wrap64 ((wrap64 (a0)) + (wrap64 (a1)))) > (wrap64 (a0)) then ((level_Laps.f (wrap64 ((wrap64 ((wrap64 (a0)) + (wrap64 (a1)))) + 16)) (wrap64 (a0))).bind fun t107 => ((level_Laps.f (wrap64 ((wrap64 (a0)) + (wrap64 (a1)))) (wrap64 (a0))).bind fun t108 => (reveillelaw12_LevelLaps.j0 k (wrap64 (a0)) (wrap64 ((wrap64 (a0)) + (wrap64 (a1)))) (wrap64 ((wrap64 (a0)) + (wrap64 (a2)))) (t107 != (wrap64 (t108 + 1)))))) else (reveillelaw12_LevelLaps.j0 k (wrap64 (a0)) (wrap64 ((wrap64 (a0)) + (wrap64 (a1)))) (wrap64 ((wrap64 (a0)) + (wrap64 (a2)))) false))))) else (some false))
theorem reveillelaw12_LevelLaps.mono_l : ∀ k, (∀ y0 y1 y2 y3, LeO (reveillelaw12_LevelLaps.j0 k y0 y1 y2 y3) (reveillelaw12_LevelLaps.j0 (k + 1) y0 y1 y2 y3))
  | 0 => fun _ _ _ _ r h => by simp [reveillelaw12_LevelLaps.j0] at h
  | k + 1 => by
    have ih0 := reveillelaw12_LevelLaps.mono_l k
    · intro y0 y1 y2 y3
      unfold reveillelaw12_LevelLaps.j0
      repeat' first
      | (with_reducible exact ih0 _ _ _ _)
      | (with_reducible exact LeO.refl _)
      | (with_reducible exact LeO.none _)
      | (with_reducible refine LeO.ite ?_ ?_)
      | (with_reducible refine LeO.bind ?_ (fun _ => ?_))
      | exact ih0 _ _ _ _
      | exact LeO.none _
      | refine LeO.ite ?_ ?_
      | refine LeO.bind ?_ (fun _ => ?_)
theorem reveillelaw12_LevelLaps.mono : ∀ a0 a1 a2 k, LeO (reveillelaw12_LevelLaps.f k a0 a1 a2) (reveillelaw12_LevelLaps.f (k + 1) a0 a1 a2) := by
  intro a0 a1 a2 k
  have ih0 := reveillelaw12_LevelLaps.mono_l k
  unfold reveillelaw12_LevelLaps.f
  repeat' first
      | (with_reducible exact ih0 _ _ _ _)
      | (with_reducible exact LeO.refl _)
      | (with_reducible exact LeO.none _)
      | (with_reducible refine LeO.ite ?_ ?_)
      | (with_reducible refine LeO.bind ?_ (fun _ => ?_))
      | exact ih0 _ _ _ _
      | exact LeO.none _
      | refine LeO.ite ?_ ?_
      | refine LeO.bind ?_ (fun _ => ?_)
set_option maxHeartbeats 8000000 in
set_option maxRecDepth 100000 in
theorem reveillelaw12_LevelLaps.calls (k : Nat) (a0 : Int) (a1 : Int) (a2 : Int) (r : Bool) (w : World) (h : reveillelaw12_LevelLaps.f k a0 a1 a2 = some r) :
    Calls Try.prog 3 #[.int .u32 a0, .int .u16 a1, .int .u16 a2] w fun e w' => e = .returned (.bool r) ∧ Below w.heap.size w w' := by
  have HB := Aside0.mk (Below.refl w.heap.size w)
  have H : ((reveillelaw12_awake.f).bind fun t104 => (if t104 = true then ((level_Slot.f (wrap64 ((wrap64 (a0)) + (wrap64 (a1))))).bind fun t105 => ((level_Slot.f (wrap64 ((wrap64 (a0)) + (wrap64 (a2))))).bind fun t106 => (if ((t105 == t106) != ((Int.tmod (wrap64 ((wrap64 ((wrap64 (a0)) + (wrap64 (a1)))) - (wrap64 ((wrap64 (a0)) + (wrap64 (a2)))))) 16) == 0)) = true then (reveillelaw12_LevelLaps.j0 k (wrap64 (a0)) (wrap64 ((wrap64 (a0)) + (wrap64 (a1)))) (wrap64 ((wrap64 (a0)) + (wrap64 (a2)))) true) else (if (wrap64 ((wrap64 (a0)) + (wrap64 (a1)))) > (wrap64 (a0)) then ((level_Laps.f (wrap64 ((wrap64 ((wrap64 (a0)) + (wrap64 (a1)))) + 16)) (wrap64 (a0))).bind fun t107 => ((level_Laps.f (wrap64 ((wrap64 (a0)) + (wrap64 (a1)))) (wrap64 (a0))).bind fun t108 => (reveillelaw12_LevelLaps.j0 k (wrap64 (a0)) (wrap64 ((wrap64 (a0)) + (wrap64 (a1)))) (wrap64 ((wrap64 (a0)) + (wrap64 (a2)))) (t107 != (wrap64 (t108 + 1)))))) else (reveillelaw12_LevelLaps.j0 k (wrap64 (a0)) (wrap64 ((wrap64 (a0)) + (wrap64 (a1)))) (wrap64 ((wrap64 (a0)) + (wrap64 (a2)))) false))))) else (some false))) = some r := h
  clear h
  replace H := Option.bind_eq_some_iff.mp H
  obtain ⟨t104, A40, H⟩ := H
  replace H : (if t104 = true then ((level_Slot.f (wrap64 ((wrap64 (a0)) + (wrap64 (a1))))).bind fun t105 => ((level_Slot.f (wrap64 ((wrap64 (a0)) + (wrap64 (a2))))).bind fun t106 => (if ((t105 == t106) != ((Int.tmod (wrap64 ((wrap64 ((wrap64 (a0)) + (wrap64 (a1)))) - (wrap64 ((wrap64 (a0)) + (wrap64 (a2)))))) 16) == 0)) = true then (reveillelaw12_LevelLaps.j0 k (wrap64 (a0)) (wrap64 ((wrap64 (a0)) + (wrap64 (a1)))) (wrap64 ((wrap64 (a0)) + (wrap64 (a2)))) true) else (if (wrap64 ((wrap64 (a0)) + (wrap64 (a1)))) > (wrap64 (a0)) then ((level_Laps.f (wrap64 ((wrap64 ((wrap64 (a0)) + (wrap64 (a1)))) + 16)) (wrap64 (a0))).bind fun t107 => ((level_Laps.f (wrap64 ((wrap64 (a0)) + (wrap64 (a1)))) (wrap64 (a0))).bind fun t108 => (reveillelaw12_LevelLaps.j0 k (wrap64 (a0)) (wrap64 ((wrap64 (a0)) + (wrap64 (a1)))) (wrap64 ((wrap64 (a0)) + (wrap64 (a2)))) (t107 != (wrap64 (t108 + 1)))))) else (reveillelaw12_LevelLaps.j0 k (wrap64 (a0)) (wrap64 ((wrap64 (a0)) + (wrap64 (a1)))) (wrap64 ((wrap64 (a0)) + (wrap64 (a2)))) false))))) else (some false)) = some r := H
  have A4 := Aside0.mk A40
  clear A40
  by_cases c5 : t104 = true
  · subst c5
    have H1 : ((level_Slot.f (wrap64 ((wrap64 (a0)) + (wrap64 (a1))))).bind fun t105 => ((level_Slot.f (wrap64 ((wrap64 (a0)) + (wrap64 (a2))))).bind fun t106 => (if ((t105 == t106) != ((Int.tmod (wrap64 ((wrap64 ((wrap64 (a0)) + (wrap64 (a1)))) - (wrap64 ((wrap64 (a0)) + (wrap64 (a2)))))) 16) == 0)) = true then (reveillelaw12_LevelLaps.j0 k (wrap64 (a0)) (wrap64 ((wrap64 (a0)) + (wrap64 (a1)))) (wrap64 ((wrap64 (a0)) + (wrap64 (a2)))) true) else (if (wrap64 ((wrap64 (a0)) + (wrap64 (a1)))) > (wrap64 (a0)) then ((level_Laps.f (wrap64 ((wrap64 ((wrap64 (a0)) + (wrap64 (a1)))) + 16)) (wrap64 (a0))).bind fun t107 => ((level_Laps.f (wrap64 ((wrap64 (a0)) + (wrap64 (a1)))) (wrap64 (a0))).bind fun t108 => (reveillelaw12_LevelLaps.j0 k (wrap64 (a0)) (wrap64 ((wrap64 (a0)) + (wrap64 (a1)))) (wrap64 ((wrap64 (a0)) + (wrap64 (a2)))) (t107 != (wrap64 (t108 + 1)))))) else (reveillelaw12_LevelLaps.j0 k (wrap64 (a0)) (wrap64 ((wrap64 (a0)) + (wrap64 (a1)))) (wrap64 ((wrap64 (a0)) + (wrap64 (a2)))) false))))) = some r := by rw [if_pos rfl] at H; exact H
    clear H
    have H := H1
    clear H1
    have HC6 := Aside0.mk H
    clear H
    go_enter Try.func3, Try.ntmps3
    go_upto_region 4 with (first | ((with_reducible refine gate_callee (f := 9) rfl ?_); refine goesL_ (some 10) rfl rfl Try.func9 (by kernel_rfl) rfl #[] rfl (by (try simp only [List.map_toArray, List.map_cons, List.map_nil]); first | done | rfl | (simp only [List.length_drop, List.length_take]; rfl)) ?_; (with_reducible refine (reveillelaw12_awake.calls  true _ A4.out).mono ?_); rintro e w7 ⟨rfl, hb⟩; refine ⟨_, rfl, ?_⟩; have n0_ := Aside0.mk (below_step (by repeat (first | (with_reducible first | exact HB.out | apply below_alloc | apply pw_below_drewN | apply below_drew1) | exact HB.out)) hb); clear HB; have HB := n0_; clear n0_; (try clear hb); (try clear hb2); (try clear hk); (try clear hi)))
    (try simp only [Act.put, List.setIfInBounds_toArray, List.set_cons_zero, List.set_cons_succ])
    go_cut [50] (fun v50 wc => ∃ (kq : Nat) (x50_5 : Bool), v50 = .bool x50_5 ∧ Aside0 (reveillelaw12_LevelLaps.j0 kq (wrap64 (a0)) (wrap64 ((wrap64 (a0)) + (wrap64 (a1)))) (wrap64 ((wrap64 (a0)) + (wrap64 (a2)))) x50_5 = some r) ∧ Aside0 (kq ≤ k) ∧ Aside0 (Below w.heap.size w wc))
    case first =>
      have H := HC6.out
      clear HC6
      replace H := Option.bind_eq_some_iff.mp H
      obtain ⟨t105, A80, H⟩ := H
      replace H : ((level_Slot.f (wrap64 ((wrap64 (a0)) + (wrap64 (a2))))).bind fun t106 => (if ((t105 == t106) != ((Int.tmod (wrap64 ((wrap64 ((wrap64 (a0)) + (wrap64 (a1)))) - (wrap64 ((wrap64 (a0)) + (wrap64 (a2)))))) 16) == 0)) = true then (reveillelaw12_LevelLaps.j0 k (wrap64 (a0)) (wrap64 ((wrap64 (a0)) + (wrap64 (a1)))) (wrap64 ((wrap64 (a0)) + (wrap64 (a2)))) true) else (if (wrap64 ((wrap64 (a0)) + (wrap64 (a1)))) > (wrap64 (a0)) then ((level_Laps.f (wrap64 ((wrap64 ((wrap64 (a0)) + (wrap64 (a1)))) + 16)) (wrap64 (a0))).bind fun t107 => ((level_Laps.f (wrap64 ((wrap64 (a0)) + (wrap64 (a1)))) (wrap64 (a0))).bind fun t108 => (reveillelaw12_LevelLaps.j0 k (wrap64 (a0)) (wrap64 ((wrap64 (a0)) + (wrap64 (a1)))) (wrap64 ((wrap64 (a0)) + (wrap64 (a2)))) (t107 != (wrap64 (t108 + 1)))))) else (reveillelaw12_LevelLaps.j0 k (wrap64 (a0)) (wrap64 ((wrap64 (a0)) + (wrap64 (a1)))) (wrap64 ((wrap64 (a0)) + (wrap64 (a2)))) false)))) = some r := H
      have A8 := Aside0.mk A80
      clear A80
      replace H := Option.bind_eq_some_iff.mp H
      obtain ⟨t106, A90, H⟩ := H
      replace H : (if ((t105 == t106) != ((Int.tmod (wrap64 ((wrap64 ((wrap64 (a0)) + (wrap64 (a1)))) - (wrap64 ((wrap64 (a0)) + (wrap64 (a2)))))) 16) == 0)) = true then (reveillelaw12_LevelLaps.j0 k (wrap64 (a0)) (wrap64 ((wrap64 (a0)) + (wrap64 (a1)))) (wrap64 ((wrap64 (a0)) + (wrap64 (a2)))) true) else (if (wrap64 ((wrap64 (a0)) + (wrap64 (a1)))) > (wrap64 (a0)) then ((level_Laps.f (wrap64 ((wrap64 ((wrap64 (a0)) + (wrap64 (a1)))) + 16)) (wrap64 (a0))).bind fun t107 => ((level_Laps.f (wrap64 ((wrap64 (a0)) + (wrap64 (a1)))) (wrap64 (a0))).bind fun t108 => (reveillelaw12_LevelLaps.j0 k (wrap64 (a0)) (wrap64 ((wrap64 (a0)) + (wrap64 (a1)))) (wrap64 ((wrap64 (a0)) + (wrap64 (a2)))) (t107 != (wrap64 (t108 + 1)))))) else (reveillelaw12_LevelLaps.j0 k (wrap64 (a0)) (wrap64 ((wrap64 (a0)) + (wrap64 (a1)))) (wrap64 ((wrap64 (a0)) + (wrap64 (a2)))) false))) = some r := H
      have A9 := Aside0.mk A90
      clear A90
      by_cases c10 : ((t105 == t106) != ((Int.tmod (wrap64 ((wrap64 ((wrap64 (a0)) + (wrap64 (a1)))) - (wrap64 ((wrap64 (a0)) + (wrap64 (a2)))))) 16) == 0)) = true
      · rw [if_pos c10] at H
        have c10b0 : ((t105 == t106) != ((Int.tmod (wrap64 ((wrap64 ((wrap64 (a0)) + (wrap64 (a1)))) - (wrap64 ((wrap64 (a0)) + (wrap64 (a2)))))) 16) == 0)) = true := c10
        (try (have c10b1 : decide ((t105 == t106) = ((Int.tmod (wrap64 ((wrap64 ((wrap64 (a0)) + (wrap64 (a1)))) - (wrap64 ((wrap64 (a0)) + (wrap64 (a2)))))) 16) == 0)) = false := by simpa using c10))
        (try (have c10b2 : ((t105 == t106) == ((Int.tmod (wrap64 ((wrap64 ((wrap64 (a0)) + (wrap64 (a1)))) - (wrap64 ((wrap64 (a0)) + (wrap64 (a2)))))) 16) == 0)) = false := by simpa using c10))
        (try (have c10b3 : ¬ ((t105 == t106) = ((Int.tmod (wrap64 ((wrap64 ((wrap64 (a0)) + (wrap64 (a1)))) - (wrap64 ((wrap64 (a0)) + (wrap64 (a2)))))) 16) == 0)) := by simpa using c10))
        clear c10
        (first | rw [c10b0] | (simp only [i64_w, i32_w]; rw [c10b0]) | skip)
        have H' := Aside0.mk H
        clear H
        go_wp2_with (first | ((with_reducible refine gate_callee (f := 10) rfl ?_); refine goesL_ (some 25) rfl rfl Try.func10 (by kernel_rfl) rfl #[.int .i64 (wrap64 ((wrap64 (a0)) + (wrap64 (a1))))] rfl (by (try simp only [List.map_toArray, List.map_cons, List.map_nil]); first | done | rfl | (simp only [List.length_drop, List.length_take]; rfl)) ?_; (with_reducible refine (level_Slot.calls (wrap64 ((wrap64 (a0)) + (wrap64 (a1)))) t105 _ A8.out).mono ?_); rintro e w11 ⟨rfl, hb⟩; refine ⟨_, rfl, ?_⟩; have n0_ := Aside0.mk (below_step (by repeat (first | (with_reducible first | exact HB.out | apply below_alloc | apply pw_below_drewN | apply below_drew1) | exact HB.out)) hb); clear HB; have HB := n0_; clear n0_; (try clear hb); (try clear hb2); (try clear hk); (try clear hi)) | ((with_reducible refine gate_callee (f := 10) rfl ?_); refine goesL_ (some 27) rfl rfl Try.func10 (by kernel_rfl) rfl #[.int .i64 (wrap64 ((wrap64 (a0)) + (wrap64 (a2))))] rfl (by (try simp only [List.map_toArray, List.map_cons, List.map_nil]); first | done | rfl | (simp only [List.length_drop, List.length_take]; rfl)) ?_; (with_reducible refine (level_Slot.calls (wrap64 ((wrap64 (a0)) + (wrap64 (a2)))) t106 _ A9.out).mono ?_); rintro e w12 ⟨rfl, hb⟩; refine ⟨_, rfl, ?_⟩; have n0_ := Aside0.mk (below_step (by repeat (first | (with_reducible first | exact HB.out | apply below_alloc | apply pw_below_drewN | apply below_drew1) | exact HB.out)) hb); clear HB; have HB := n0_; clear n0_; (try clear hb); (try clear hb2); (try clear hk); (try clear hi)))
        go_meet
        case rel => exact ⟨_, (true), (by first | rfl | (simp; done) | (simp [*]; done)), H', ⟨by first | omega | exact Nat.le_refl _⟩, ⟨by repeat (first | (with_reducible first | exact HB.out | apply below_alloc | apply pw_below_drewN | apply below_drew1) | exact HB.out)⟩⟩
      · rw [if_neg c10] at H
        have c10b0 : ((t105 == t106) != ((Int.tmod (wrap64 ((wrap64 ((wrap64 (a0)) + (wrap64 (a1)))) - (wrap64 ((wrap64 (a0)) + (wrap64 (a2)))))) 16) == 0)) = false := by simpa using c10
        (try (have c10b1 : decide ((t105 == t106) = ((Int.tmod (wrap64 ((wrap64 ((wrap64 (a0)) + (wrap64 (a1)))) - (wrap64 ((wrap64 (a0)) + (wrap64 (a2)))))) 16) == 0)) = true := by simpa using c10))
        (try (have c10b2 : ((t105 == t106) == ((Int.tmod (wrap64 ((wrap64 ((wrap64 (a0)) + (wrap64 (a1)))) - (wrap64 ((wrap64 (a0)) + (wrap64 (a2)))))) 16) == 0)) = true := by simpa using c10))
        clear c10
        (first | rw [c10b0] | (simp only [i64_w, i32_w]; rw [c10b0]) | skip)
        by_cases c13 : (wrap64 ((wrap64 (a0)) + (wrap64 (a1)))) > (wrap64 (a0))
        · rw [if_pos c13] at H
          have c13b0 : decide ((wrap64 (a0)) < (wrap64 ((wrap64 (a0)) + (wrap64 (a1))))) = true := decide_eq_true c13
          clear c13
          replace H := Option.bind_eq_some_iff.mp H
          obtain ⟨t107, A140, H⟩ := H
          replace H : ((level_Laps.f (wrap64 ((wrap64 (a0)) + (wrap64 (a1)))) (wrap64 (a0))).bind fun t108 => (reveillelaw12_LevelLaps.j0 k (wrap64 (a0)) (wrap64 ((wrap64 (a0)) + (wrap64 (a1)))) (wrap64 ((wrap64 (a0)) + (wrap64 (a2)))) (t107 != (wrap64 (t108 + 1))))) = some r := H
          have A14 := Aside0.mk A140
          clear A140
          replace H := Option.bind_eq_some_iff.mp H
          obtain ⟨t108, A150, H⟩ := H
          replace H : (reveillelaw12_LevelLaps.j0 k (wrap64 (a0)) (wrap64 ((wrap64 (a0)) + (wrap64 (a1)))) (wrap64 ((wrap64 (a0)) + (wrap64 (a2)))) (t107 != (wrap64 (t108 + 1)))) = some r := H
          have A15 := Aside0.mk A150
          clear A150
          have H' := Aside0.mk H
          clear H
          go_wp2_with (first | ((with_reducible refine gate_callee (f := 10) rfl ?_); refine goesL_ (some 25) rfl rfl Try.func10 (by kernel_rfl) rfl #[.int .i64 (wrap64 ((wrap64 (a0)) + (wrap64 (a1))))] rfl (by (try simp only [List.map_toArray, List.map_cons, List.map_nil]); first | done | rfl | (simp only [List.length_drop, List.length_take]; rfl)) ?_; (with_reducible refine (level_Slot.calls (wrap64 ((wrap64 (a0)) + (wrap64 (a1)))) t105 _ A8.out).mono ?_); rintro e w16 ⟨rfl, hb⟩; refine ⟨_, rfl, ?_⟩; have n0_ := Aside0.mk (below_step (by repeat (first | (with_reducible first | exact HB.out | apply below_alloc | apply pw_below_drewN | apply below_drew1) | exact HB.out)) hb); clear HB; have HB := n0_; clear n0_; (try clear hb); (try clear hb2); (try clear hk); (try clear hi)) | ((with_reducible refine gate_callee (f := 10) rfl ?_); refine goesL_ (some 27) rfl rfl Try.func10 (by kernel_rfl) rfl #[.int .i64 (wrap64 ((wrap64 (a0)) + (wrap64 (a2))))] rfl (by (try simp only [List.map_toArray, List.map_cons, List.map_nil]); first | done | rfl | (simp only [List.length_drop, List.length_take]; rfl)) ?_; (with_reducible refine (level_Slot.calls (wrap64 ((wrap64 (a0)) + (wrap64 (a2)))) t106 _ A9.out).mono ?_); rintro e w17 ⟨rfl, hb⟩; refine ⟨_, rfl, ?_⟩; have n0_ := Aside0.mk (below_step (by repeat (first | (with_reducible first | exact HB.out | apply below_alloc | apply pw_below_drewN | apply below_drew1) | exact HB.out)) hb); clear HB; have HB := n0_; clear n0_; (try clear hb); (try clear hb2); (try clear hk); (try clear hi)) | (go_at_call 11; (with_reducible refine (level_Laps.calls (wrap64 ((wrap64 ((wrap64 (a0)) + (wrap64 (a1)))) + 16)) (wrap64 (a0)) t107 _ A14.out).mono ?_); rintro e w' ⟨rfl, ⟨nd, rfl⟩⟩) | (go_at_call 11; (with_reducible refine (level_Laps.calls (wrap64 ((wrap64 (a0)) + (wrap64 (a1)))) (wrap64 (a0)) t108 _ A15.out).mono ?_); rintro e w' ⟨rfl, ⟨nd, rfl⟩⟩))
          go_meet
          case rel => exact ⟨_, ((t107 != (wrap64 (t108 + 1)))), (by first | rfl | (simp; done) | (simp [*]; done)), H', ⟨by first | omega | exact Nat.le_refl _⟩, ⟨by repeat (first | (with_reducible first | exact HB.out | apply below_alloc | apply pw_below_drewN | apply below_drew1) | exact HB.out)⟩⟩
        · rw [if_neg c13] at H
          have c13b0 : decide ((wrap64 (a0)) < (wrap64 ((wrap64 (a0)) + (wrap64 (a1))))) = false := decide_eq_false c13
          clear c13
          have H' := Aside0.mk H
          clear H
          go_wp2_with (first | ((with_reducible refine gate_callee (f := 10) rfl ?_); refine goesL_ (some 25) rfl rfl Try.func10 (by kernel_rfl) rfl #[.int .i64 (wrap64 ((wrap64 (a0)) + (wrap64 (a1))))] rfl (by (try simp only [List.map_toArray, List.map_cons, List.map_nil]); first | done | rfl | (simp only [List.length_drop, List.length_take]; rfl)) ?_; (with_reducible refine (level_Slot.calls (wrap64 ((wrap64 (a0)) + (wrap64 (a1)))) t105 _ A8.out).mono ?_); rintro e w18 ⟨rfl, hb⟩; refine ⟨_, rfl, ?_⟩; have n0_ := Aside0.mk (below_step (by repeat (first | (with_reducible first | exact HB.out | apply below_alloc | apply pw_below_drewN | apply below_drew1) | exact HB.out)) hb); clear HB; have HB := n0_; clear n0_; (try clear hb); (try clear hb2); (try clear hk); (try clear hi)) | ((with_reducible refine gate_callee (f := 10) rfl ?_); refine goesL_ (some 27) rfl rfl Try.func10 (by kernel_rfl) rfl #[.int .i64 (wrap64 ((wrap64 (a0)) + (wrap64 (a2))))] rfl (by (try simp only [List.map_toArray, List.map_cons, List.map_nil]); first | done | rfl | (simp only [List.length_drop, List.length_take]; rfl)) ?_; (with_reducible refine (level_Slot.calls (wrap64 ((wrap64 (a0)) + (wrap64 (a2)))) t106 _ A9.out).mono ?_); rintro e w19 ⟨rfl, hb⟩; refine ⟨_, rfl, ?_⟩; have n0_ := Aside0.mk (below_step (by repeat (first | (with_reducible first | exact HB.out | apply below_alloc | apply pw_below_drewN | apply below_drew1) | exact HB.out)) hb); clear HB; have HB := n0_; clear n0_; (try clear hb); (try clear hb2); (try clear hk); (try clear hi)))
          go_meet
          case rel => exact ⟨_, (false), (by first | rfl | (simp; done) | (simp [*]; done)), H', ⟨by first | omega | exact Nat.le_refl _⟩, ⟨by repeat (first | (with_reducible first | exact HB.out | apply below_alloc | apply pw_below_drewN | apply below_drew1) | exact HB.out)⟩⟩
    case rest =>
      clear HC6
      try clear c1
      try clear p2
      try clear c3
      try clear c5
      try clear p6
      try clear c9
      try clear c10
      try clear c10b0
      try clear c10b1
      try clear c10b2
      try clear c13
      try clear c13b0
      obtain ⟨kq, x50_5, rfl, HA, HJ5, HB⟩ := hcut
      cases kq with
      | zero => exact absurd HA.out (by simp [reveillelaw12_LevelLaps.j0])
      | succ kj5 =>
        have H := HA.out
        clear HA
        simp only [reveillelaw12_LevelLaps.j0] at H
        by_cases c20 : x50_5 = true
        · subst c20
          have H1 : (some false) = some r := by rw [if_pos rfl] at H; exact H
          clear H
          have H := H1
          clear H1
          obtain rfl := Option.some.inj H
          go_wp2
          go_ret
          exact ⟨by first | rfl | (simp [errW_none, errW_some] <;> rfl) | (simp [*, errW_none, errW_some] <;> rfl), by repeat (first | (with_reducible first | exact HB.out | apply below_alloc | apply pw_below_drewN | apply below_drew1) | exact HB.out)⟩
        · replace c20 := Bool.eq_false_iff.mpr c20
          subst c20
          have H1 : ((level_Far.f (wrap64 ((wrap64 (a0)) + (wrap64 (a1)))) (wrap64 (a0))).bind fun t109 => ((level_Laps.f (wrap64 ((wrap64 (a0)) + (wrap64 (a1)))) (wrap64 (a0))).bind fun t110 => (if (t109 == (decide (t110 > 0))) = true then ((level_Far.f (wrap64 ((wrap64 (a0)) + (wrap64 (a1)))) (wrap64 (a0))).bind fun t111 => (if t111 = true then (if (wrap64 ((wrap64 (a0)) + (wrap64 (a1)))) ≥ (wrap64 ((wrap64 (a0)) + 16)) then (if (wrap64 ((wrap64 (a0)) + (wrap64 (a1)))) > (wrap64 ((wrap64 (a0)) + (wrap64 (a2)))) then (some true) else ((level_Laps.f (wrap64 ((wrap64 (a0)) + (wrap64 (a1)))) (wrap64 (a0))).bind fun t112 => ((level_Laps.f (wrap64 ((wrap64 (a0)) + (wrap64 (a2)))) (wrap64 (a0))).bind fun t113 => (some (decide (t112 ≤ t113)))))) else (some false)) else (if (wrap64 ((wrap64 (a0)) + (wrap64 (a1)))) > (wrap64 ((wrap64 (a0)) + (wrap64 (a2)))) then (some true) else ((level_Laps.f (wrap64 ((wrap64 (a0)) + (wrap64 (a1)))) (wrap64 (a0))).bind fun t114 => ((level_Laps.f (wrap64 ((wrap64 (a0)) + (wrap64 (a2)))) (wrap64 (a0))).bind fun t115 => (some (decide (t114 ≤ t115)))))))) else (some false)))) = some r := by rw [if_neg (show ¬ (false = true) by decide)] at H; exact H
          clear H
          have H := H1
          clear H1
          replace H := Option.bind_eq_some_iff.mp H
          obtain ⟨t109, A210, H⟩ := H
          replace H : ((level_Laps.f (wrap64 ((wrap64 (a0)) + (wrap64 (a1)))) (wrap64 (a0))).bind fun t110 => (if (t109 == (decide (t110 > 0))) = true then ((level_Far.f (wrap64 ((wrap64 (a0)) + (wrap64 (a1)))) (wrap64 (a0))).bind fun t111 => (if t111 = true then (if (wrap64 ((wrap64 (a0)) + (wrap64 (a1)))) ≥ (wrap64 ((wrap64 (a0)) + 16)) then (if (wrap64 ((wrap64 (a0)) + (wrap64 (a1)))) > (wrap64 ((wrap64 (a0)) + (wrap64 (a2)))) then (some true) else ((level_Laps.f (wrap64 ((wrap64 (a0)) + (wrap64 (a1)))) (wrap64 (a0))).bind fun t112 => ((level_Laps.f (wrap64 ((wrap64 (a0)) + (wrap64 (a2)))) (wrap64 (a0))).bind fun t113 => (some (decide (t112 ≤ t113)))))) else (some false)) else (if (wrap64 ((wrap64 (a0)) + (wrap64 (a1)))) > (wrap64 ((wrap64 (a0)) + (wrap64 (a2)))) then (some true) else ((level_Laps.f (wrap64 ((wrap64 (a0)) + (wrap64 (a1)))) (wrap64 (a0))).bind fun t114 => ((level_Laps.f (wrap64 ((wrap64 (a0)) + (wrap64 (a2)))) (wrap64 (a0))).bind fun t115 => (some (decide (t114 ≤ t115)))))))) else (some false))) = some r := H
          have A21 := Aside0.mk A210
          clear A210
          replace H := Option.bind_eq_some_iff.mp H
          obtain ⟨t110, A220, H⟩ := H
          replace H : (if (t109 == (decide (t110 > 0))) = true then ((level_Far.f (wrap64 ((wrap64 (a0)) + (wrap64 (a1)))) (wrap64 (a0))).bind fun t111 => (if t111 = true then (if (wrap64 ((wrap64 (a0)) + (wrap64 (a1)))) ≥ (wrap64 ((wrap64 (a0)) + 16)) then (if (wrap64 ((wrap64 (a0)) + (wrap64 (a1)))) > (wrap64 ((wrap64 (a0)) + (wrap64 (a2)))) then (some true) else ((level_Laps.f (wrap64 ((wrap64 (a0)) + (wrap64 (a1)))) (wrap64 (a0))).bind fun t112 => ((level_Laps.f (wrap64 ((wrap64 (a0)) + (wrap64 (a2)))) (wrap64 (a0))).bind fun t113 => (some (decide (t112 ≤ t113)))))) else (some false)) else (if (wrap64 ((wrap64 (a0)) + (wrap64 (a1)))) > (wrap64 ((wrap64 (a0)) + (wrap64 (a2)))) then (some true) else ((level_Laps.f (wrap64 ((wrap64 (a0)) + (wrap64 (a1)))) (wrap64 (a0))).bind fun t114 => ((level_Laps.f (wrap64 ((wrap64 (a0)) + (wrap64 (a2)))) (wrap64 (a0))).bind fun t115 => (some (decide (t114 ≤ t115)))))))) else (some false)) = some r := H
          have A22 := Aside0.mk A220
          clear A220
          by_cases c23 : (t109 == (decide (t110 > 0))) = true
          · rw [if_pos c23] at H
            have c23b0 : (t109 == (decide (t110 > 0))) = true := c23
            (try (have c23b1 : decide (t109 = (decide (t110 > 0))) = true := by simpa using c23))
            (try (have c23b2 : (t109 == (decide (t110 > 0))) = true := by simpa using c23))
            clear c23
            replace H := Option.bind_eq_some_iff.mp H
            obtain ⟨t111, A240, H⟩ := H
            replace H : (if t111 = true then (if (wrap64 ((wrap64 (a0)) + (wrap64 (a1)))) ≥ (wrap64 ((wrap64 (a0)) + 16)) then (if (wrap64 ((wrap64 (a0)) + (wrap64 (a1)))) > (wrap64 ((wrap64 (a0)) + (wrap64 (a2)))) then (some true) else ((level_Laps.f (wrap64 ((wrap64 (a0)) + (wrap64 (a1)))) (wrap64 (a0))).bind fun t112 => ((level_Laps.f (wrap64 ((wrap64 (a0)) + (wrap64 (a2)))) (wrap64 (a0))).bind fun t113 => (some (decide (t112 ≤ t113)))))) else (some false)) else (if (wrap64 ((wrap64 (a0)) + (wrap64 (a1)))) > (wrap64 ((wrap64 (a0)) + (wrap64 (a2)))) then (some true) else ((level_Laps.f (wrap64 ((wrap64 (a0)) + (wrap64 (a1)))) (wrap64 (a0))).bind fun t114 => ((level_Laps.f (wrap64 ((wrap64 (a0)) + (wrap64 (a2)))) (wrap64 (a0))).bind fun t115 => (some (decide (t114 ≤ t115))))))) = some r := H
            have A24 := Aside0.mk A240
            clear A240
            by_cases c25 : t111 = true
            · subst c25
              have H1 : (if (wrap64 ((wrap64 (a0)) + (wrap64 (a1)))) ≥ (wrap64 ((wrap64 (a0)) + 16)) then (if (wrap64 ((wrap64 (a0)) + (wrap64 (a1)))) > (wrap64 ((wrap64 (a0)) + (wrap64 (a2)))) then (some true) else ((level_Laps.f (wrap64 ((wrap64 (a0)) + (wrap64 (a1)))) (wrap64 (a0))).bind fun t112 => ((level_Laps.f (wrap64 ((wrap64 (a0)) + (wrap64 (a2)))) (wrap64 (a0))).bind fun t113 => (some (decide (t112 ≤ t113)))))) else (some false)) = some r := by rw [if_pos rfl] at H; exact H
              clear H
              have H := H1
              clear H1
              by_cases c26 : (wrap64 ((wrap64 (a0)) + (wrap64 (a1)))) ≥ (wrap64 ((wrap64 (a0)) + 16))
              · rw [if_pos c26] at H
                have c26b0 : decide ((wrap64 ((wrap64 (a0)) + 16)) ≤ (wrap64 ((wrap64 (a0)) + (wrap64 (a1))))) = true := decide_eq_true c26
                clear c26
                by_cases c27 : (wrap64 ((wrap64 (a0)) + (wrap64 (a1)))) > (wrap64 ((wrap64 (a0)) + (wrap64 (a2))))
                · rw [if_pos c27] at H
                  have c27b0 : decide ((wrap64 ((wrap64 (a0)) + (wrap64 (a2)))) < (wrap64 ((wrap64 (a0)) + (wrap64 (a1))))) = true := decide_eq_true c27
                  clear c27
                  obtain rfl := Option.some.inj H
                  go_wp2_with (first | ((with_reducible refine gate_callee (f := 12) rfl ?_); refine goesL_ (some 53) rfl rfl Try.func12 (by kernel_rfl) rfl #[.int .i64 (wrap64 ((wrap64 (a0)) + (wrap64 (a1)))), .int .i64 (wrap64 (a0))] rfl (by (try simp only [List.map_toArray, List.map_cons, List.map_nil]); first | done | rfl | (simp only [List.length_drop, List.length_take]; rfl)) ?_; (with_reducible refine (level_Far.calls (wrap64 ((wrap64 (a0)) + (wrap64 (a1)))) (wrap64 (a0)) t109 _ A21.out).mono ?_); rintro e w' ⟨rfl, ⟨nd, rfl⟩⟩; refine ⟨_, rfl, ?_⟩) | ((with_reducible refine gate_callee (f := 11) rfl ?_); refine goesL_ (some 56) rfl rfl Try.func11 (by kernel_rfl) rfl #[.int .i64 (wrap64 ((wrap64 (a0)) + (wrap64 (a1)))), .int .i64 (wrap64 (a0))] rfl (by (try simp only [List.map_toArray, List.map_cons, List.map_nil]); first | done | rfl | (simp only [List.length_drop, List.length_take]; rfl)) ?_; (with_reducible refine (level_Laps.calls (wrap64 ((wrap64 (a0)) + (wrap64 (a1)))) (wrap64 (a0)) t110 _ A22.out).mono ?_); rintro e w' ⟨rfl, ⟨nd, rfl⟩⟩; refine ⟨_, rfl, ?_⟩) | (go_at_call 12; (with_reducible refine (level_Far.calls (wrap64 ((wrap64 (a0)) + (wrap64 (a1)))) (wrap64 (a0)) true _ A24.out).mono ?_); rintro e w' ⟨rfl, ⟨nd, rfl⟩⟩))
                  go_ret
                  exact ⟨by first | rfl | (simp [errW_none, errW_some] <;> rfl) | (simp [*, errW_none, errW_some] <;> rfl), by repeat (first | (with_reducible first | exact HB.out | apply below_alloc | apply pw_below_drewN | apply below_drew1) | exact HB.out)⟩
                · rw [if_neg c27] at H
                  have c27b0 : decide ((wrap64 ((wrap64 (a0)) + (wrap64 (a2)))) < (wrap64 ((wrap64 (a0)) + (wrap64 (a1))))) = false := decide_eq_false c27
                  clear c27
                  replace H := Option.bind_eq_some_iff.mp H
                  obtain ⟨t112, A280, H⟩ := H
                  replace H : ((level_Laps.f (wrap64 ((wrap64 (a0)) + (wrap64 (a2)))) (wrap64 (a0))).bind fun t113 => (some (decide (t112 ≤ t113)))) = some r := H
                  have A28 := Aside0.mk A280
                  clear A280
                  replace H := Option.bind_eq_some_iff.mp H
                  obtain ⟨t113, A290, H⟩ := H
                  replace H : (some (decide (t112 ≤ t113))) = some r := H
                  have A29 := Aside0.mk A290
                  clear A290
                  obtain rfl := Option.some.inj H
                  go_wp2_with (first | ((with_reducible refine gate_callee (f := 12) rfl ?_); refine goesL_ (some 53) rfl rfl Try.func12 (by kernel_rfl) rfl #[.int .i64 (wrap64 ((wrap64 (a0)) + (wrap64 (a1)))), .int .i64 (wrap64 (a0))] rfl (by (try simp only [List.map_toArray, List.map_cons, List.map_nil]); first | done | rfl | (simp only [List.length_drop, List.length_take]; rfl)) ?_; (with_reducible refine (level_Far.calls (wrap64 ((wrap64 (a0)) + (wrap64 (a1)))) (wrap64 (a0)) t109 _ A21.out).mono ?_); rintro e w' ⟨rfl, ⟨nd, rfl⟩⟩; refine ⟨_, rfl, ?_⟩) | ((with_reducible refine gate_callee (f := 11) rfl ?_); refine goesL_ (some 56) rfl rfl Try.func11 (by kernel_rfl) rfl #[.int .i64 (wrap64 ((wrap64 (a0)) + (wrap64 (a1)))), .int .i64 (wrap64 (a0))] rfl (by (try simp only [List.map_toArray, List.map_cons, List.map_nil]); first | done | rfl | (simp only [List.length_drop, List.length_take]; rfl)) ?_; (with_reducible refine (level_Laps.calls (wrap64 ((wrap64 (a0)) + (wrap64 (a1)))) (wrap64 (a0)) t110 _ A22.out).mono ?_); rintro e w' ⟨rfl, ⟨nd, rfl⟩⟩; refine ⟨_, rfl, ?_⟩) | (go_at_call 12; (with_reducible refine (level_Far.calls (wrap64 ((wrap64 (a0)) + (wrap64 (a1)))) (wrap64 (a0)) true _ A24.out).mono ?_); rintro e w' ⟨rfl, ⟨nd, rfl⟩⟩) | (go_at_call 11; (with_reducible refine (level_Laps.calls (wrap64 ((wrap64 (a0)) + (wrap64 (a1)))) (wrap64 (a0)) t112 _ A28.out).mono ?_); rintro e w' ⟨rfl, ⟨nd, rfl⟩⟩) | (go_at_call 11; (with_reducible refine (level_Laps.calls (wrap64 ((wrap64 (a0)) + (wrap64 (a2)))) (wrap64 (a0)) t113 _ A29.out).mono ?_); rintro e w' ⟨rfl, ⟨nd, rfl⟩⟩))
                  go_ret
                  exact ⟨by first | rfl | (simp [errW_none, errW_some] <;> rfl) | (simp [*, errW_none, errW_some] <;> rfl), by repeat (first | (with_reducible first | exact HB.out | apply below_alloc | apply pw_below_drewN | apply below_drew1) | exact HB.out)⟩
              · rw [if_neg c26] at H
                have c26b0 : decide ((wrap64 ((wrap64 (a0)) + 16)) ≤ (wrap64 ((wrap64 (a0)) + (wrap64 (a1))))) = false := decide_eq_false c26
                clear c26
                obtain rfl := Option.some.inj H
                go_wp2_with (first | ((with_reducible refine gate_callee (f := 12) rfl ?_); refine goesL_ (some 53) rfl rfl Try.func12 (by kernel_rfl) rfl #[.int .i64 (wrap64 ((wrap64 (a0)) + (wrap64 (a1)))), .int .i64 (wrap64 (a0))] rfl (by (try simp only [List.map_toArray, List.map_cons, List.map_nil]); first | done | rfl | (simp only [List.length_drop, List.length_take]; rfl)) ?_; (with_reducible refine (level_Far.calls (wrap64 ((wrap64 (a0)) + (wrap64 (a1)))) (wrap64 (a0)) t109 _ A21.out).mono ?_); rintro e w' ⟨rfl, ⟨nd, rfl⟩⟩; refine ⟨_, rfl, ?_⟩) | ((with_reducible refine gate_callee (f := 11) rfl ?_); refine goesL_ (some 56) rfl rfl Try.func11 (by kernel_rfl) rfl #[.int .i64 (wrap64 ((wrap64 (a0)) + (wrap64 (a1)))), .int .i64 (wrap64 (a0))] rfl (by (try simp only [List.map_toArray, List.map_cons, List.map_nil]); first | done | rfl | (simp only [List.length_drop, List.length_take]; rfl)) ?_; (with_reducible refine (level_Laps.calls (wrap64 ((wrap64 (a0)) + (wrap64 (a1)))) (wrap64 (a0)) t110 _ A22.out).mono ?_); rintro e w' ⟨rfl, ⟨nd, rfl⟩⟩; refine ⟨_, rfl, ?_⟩) | (go_at_call 12; (with_reducible refine (level_Far.calls (wrap64 ((wrap64 (a0)) + (wrap64 (a1)))) (wrap64 (a0)) true _ A24.out).mono ?_); rintro e w' ⟨rfl, ⟨nd, rfl⟩⟩))
                go_ret
                exact ⟨by first | rfl | (simp [errW_none, errW_some] <;> rfl) | (simp [*, errW_none, errW_some] <;> rfl), by repeat (first | (with_reducible first | exact HB.out | apply below_alloc | apply pw_below_drewN | apply below_drew1) | exact HB.out)⟩
            · replace c25 := Bool.eq_false_iff.mpr c25
              subst c25
              have H1 : (if (wrap64 ((wrap64 (a0)) + (wrap64 (a1)))) > (wrap64 ((wrap64 (a0)) + (wrap64 (a2)))) then (some true) else ((level_Laps.f (wrap64 ((wrap64 (a0)) + (wrap64 (a1)))) (wrap64 (a0))).bind fun t114 => ((level_Laps.f (wrap64 ((wrap64 (a0)) + (wrap64 (a2)))) (wrap64 (a0))).bind fun t115 => (some (decide (t114 ≤ t115)))))) = some r := by rw [if_neg (show ¬ (false = true) by decide)] at H; exact H
              clear H
              have H := H1
              clear H1
              by_cases c30 : (wrap64 ((wrap64 (a0)) + (wrap64 (a1)))) > (wrap64 ((wrap64 (a0)) + (wrap64 (a2))))
              · rw [if_pos c30] at H
                have c30b0 : decide ((wrap64 ((wrap64 (a0)) + (wrap64 (a2)))) < (wrap64 ((wrap64 (a0)) + (wrap64 (a1))))) = true := decide_eq_true c30
                clear c30
                obtain rfl := Option.some.inj H
                go_wp2_with (first | ((with_reducible refine gate_callee (f := 12) rfl ?_); refine goesL_ (some 53) rfl rfl Try.func12 (by kernel_rfl) rfl #[.int .i64 (wrap64 ((wrap64 (a0)) + (wrap64 (a1)))), .int .i64 (wrap64 (a0))] rfl (by (try simp only [List.map_toArray, List.map_cons, List.map_nil]); first | done | rfl | (simp only [List.length_drop, List.length_take]; rfl)) ?_; (with_reducible refine (level_Far.calls (wrap64 ((wrap64 (a0)) + (wrap64 (a1)))) (wrap64 (a0)) t109 _ A21.out).mono ?_); rintro e w' ⟨rfl, ⟨nd, rfl⟩⟩; refine ⟨_, rfl, ?_⟩) | ((with_reducible refine gate_callee (f := 11) rfl ?_); refine goesL_ (some 56) rfl rfl Try.func11 (by kernel_rfl) rfl #[.int .i64 (wrap64 ((wrap64 (a0)) + (wrap64 (a1)))), .int .i64 (wrap64 (a0))] rfl (by (try simp only [List.map_toArray, List.map_cons, List.map_nil]); first | done | rfl | (simp only [List.length_drop, List.length_take]; rfl)) ?_; (with_reducible refine (level_Laps.calls (wrap64 ((wrap64 (a0)) + (wrap64 (a1)))) (wrap64 (a0)) t110 _ A22.out).mono ?_); rintro e w' ⟨rfl, ⟨nd, rfl⟩⟩; refine ⟨_, rfl, ?_⟩) | (go_at_call 12; (with_reducible refine (level_Far.calls (wrap64 ((wrap64 (a0)) + (wrap64 (a1)))) (wrap64 (a0)) false _ A24.out).mono ?_); rintro e w' ⟨rfl, ⟨nd, rfl⟩⟩))
                go_ret
                exact ⟨by first | rfl | (simp [errW_none, errW_some] <;> rfl) | (simp [*, errW_none, errW_some] <;> rfl), by repeat (first | (with_reducible first | exact HB.out | apply below_alloc | apply pw_below_drewN | apply below_drew1) | exact HB.out)⟩
              · rw [if_neg c30] at H
                have c30b0 : decide ((wrap64 ((wrap64 (a0)) + (wrap64 (a2)))) < (wrap64 ((wrap64 (a0)) + (wrap64 (a1))))) = false := decide_eq_false c30
                clear c30
                replace H := Option.bind_eq_some_iff.mp H
                obtain ⟨t114, A310, H⟩ := H
                replace H : ((level_Laps.f (wrap64 ((wrap64 (a0)) + (wrap64 (a2)))) (wrap64 (a0))).bind fun t115 => (some (decide (t114 ≤ t115)))) = some r := H
                have A31 := Aside0.mk A310
                clear A310
                replace H := Option.bind_eq_some_iff.mp H
                obtain ⟨t115, A320, H⟩ := H
                replace H : (some (decide (t114 ≤ t115))) = some r := H
                have A32 := Aside0.mk A320
                clear A320
                obtain rfl := Option.some.inj H
                go_wp2_with (first | ((with_reducible refine gate_callee (f := 12) rfl ?_); refine goesL_ (some 53) rfl rfl Try.func12 (by kernel_rfl) rfl #[.int .i64 (wrap64 ((wrap64 (a0)) + (wrap64 (a1)))), .int .i64 (wrap64 (a0))] rfl (by (try simp only [List.map_toArray, List.map_cons, List.map_nil]); first | done | rfl | (simp only [List.length_drop, List.length_take]; rfl)) ?_; (with_reducible refine (level_Far.calls (wrap64 ((wrap64 (a0)) + (wrap64 (a1)))) (wrap64 (a0)) t109 _ A21.out).mono ?_); rintro e w' ⟨rfl, ⟨nd, rfl⟩⟩; refine ⟨_, rfl, ?_⟩) | ((with_reducible refine gate_callee (f := 11) rfl ?_); refine goesL_ (some 56) rfl rfl Try.func11 (by kernel_rfl) rfl #[.int .i64 (wrap64 ((wrap64 (a0)) + (wrap64 (a1)))), .int .i64 (wrap64 (a0))] rfl (by (try simp only [List.map_toArray, List.map_cons, List.map_nil]); first | done | rfl | (simp only [List.length_drop, List.length_take]; rfl)) ?_; (with_reducible refine (level_Laps.calls (wrap64 ((wrap64 (a0)) + (wrap64 (a1)))) (wrap64 (a0)) t110 _ A22.out).mono ?_); rintro e w' ⟨rfl, ⟨nd, rfl⟩⟩; refine ⟨_, rfl, ?_⟩) | (go_at_call 12; (with_reducible refine (level_Far.calls (wrap64 ((wrap64 (a0)) + (wrap64 (a1)))) (wrap64 (a0)) false _ A24.out).mono ?_); rintro e w' ⟨rfl, ⟨nd, rfl⟩⟩) | (go_at_call 11; (with_reducible refine (level_Laps.calls (wrap64 ((wrap64 (a0)) + (wrap64 (a1)))) (wrap64 (a0)) t114 _ A31.out).mono ?_); rintro e w' ⟨rfl, ⟨nd, rfl⟩⟩) | (go_at_call 11; (with_reducible refine (level_Laps.calls (wrap64 ((wrap64 (a0)) + (wrap64 (a2)))) (wrap64 (a0)) t115 _ A32.out).mono ?_); rintro e w' ⟨rfl, ⟨nd, rfl⟩⟩))
                go_ret
                exact ⟨by first | rfl | (simp [errW_none, errW_some] <;> rfl) | (simp [*, errW_none, errW_some] <;> rfl), by repeat (first | (with_reducible first | exact HB.out | apply below_alloc | apply pw_below_drewN | apply below_drew1) | exact HB.out)⟩
          · rw [if_neg c23] at H
            have c23b0 : (t109 == (decide (t110 > 0))) = false := by simpa using c23
            (try (have c23b1 : decide (t109 = (decide (t110 > 0))) = false := by simpa using c23))
            (try (have c23b2 : (t109 == (decide (t110 > 0))) = false := by simpa using c23))
            (try (have c23b3 : ¬ (t109 = (decide (t110 > 0))) := by simpa using c23))
            clear c23
            obtain rfl := Option.some.inj H
            go_wp2_with (first | ((with_reducible refine gate_callee (f := 12) rfl ?_); refine goesL_ (some 53) rfl rfl Try.func12 (by kernel_rfl) rfl #[.int .i64 (wrap64 ((wrap64 (a0)) + (wrap64 (a1)))), .int .i64 (wrap64 (a0))] rfl (by (try simp only [List.map_toArray, List.map_cons, List.map_nil]); first | done | rfl | (simp only [List.length_drop, List.length_take]; rfl)) ?_; (with_reducible refine (level_Far.calls (wrap64 ((wrap64 (a0)) + (wrap64 (a1)))) (wrap64 (a0)) t109 _ A21.out).mono ?_); rintro e w' ⟨rfl, ⟨nd, rfl⟩⟩; refine ⟨_, rfl, ?_⟩) | ((with_reducible refine gate_callee (f := 11) rfl ?_); refine goesL_ (some 56) rfl rfl Try.func11 (by kernel_rfl) rfl #[.int .i64 (wrap64 ((wrap64 (a0)) + (wrap64 (a1)))), .int .i64 (wrap64 (a0))] rfl (by (try simp only [List.map_toArray, List.map_cons, List.map_nil]); first | done | rfl | (simp only [List.length_drop, List.length_take]; rfl)) ?_; (with_reducible refine (level_Laps.calls (wrap64 ((wrap64 (a0)) + (wrap64 (a1)))) (wrap64 (a0)) t110 _ A22.out).mono ?_); rintro e w' ⟨rfl, ⟨nd, rfl⟩⟩; refine ⟨_, rfl, ?_⟩))
            go_ret
            exact ⟨by first | rfl | (simp [errW_none, errW_some] <;> rfl) | (simp [*, errW_none, errW_some] <;> rfl), by repeat (first | (with_reducible first | exact HB.out | apply below_alloc | apply pw_below_drewN | apply below_drew1) | exact HB.out)⟩
  · replace c5 := Bool.eq_false_iff.mpr c5
    subst c5
    have H1 : (some false) = some r := by rw [if_neg (show ¬ (false = true) by decide)] at H; exact H
    clear H
    have H := H1
    clear H1
    obtain rfl := Option.some.inj H
    go_enter Try.func3, Try.ntmps3
    go_wp2_with (first | ((with_reducible refine gate_callee (f := 9) rfl ?_); refine goesL_ (some 10) rfl rfl Try.func9 (by kernel_rfl) rfl #[] rfl (by (try simp only [List.map_toArray, List.map_cons, List.map_nil]); first | done | rfl | (simp only [List.length_drop, List.length_take]; rfl)) ?_; (with_reducible refine (reveillelaw12_awake.calls  false _ A4.out).mono ?_); rintro e w33 ⟨rfl, hb⟩; refine ⟨_, rfl, ?_⟩; have n0_ := Aside0.mk (below_step (by repeat (first | (with_reducible first | exact HB.out | apply below_alloc | apply pw_below_drewN | apply below_drew1) | exact HB.out)) hb); clear HB; have HB := n0_; clear n0_; (try clear hb); (try clear hb2); (try clear hk); (try clear hi)))
    go_ret
    exact ⟨by first | rfl | (simp [errW_none, errW_some] <;> rfl) | (simp [*, errW_none, errW_some] <;> rfl), by repeat (first | (with_reducible first | exact HB.out | apply below_alloc | apply pw_below_drewN | apply below_drew1) | exact HB.out)⟩

/-- THE ONE PURE STATEMENT of reveillelaw12_LevelLaps: yours. -/
def reveillelaw12_LevelLaps.Pure : Prop := ∀ (a0 : Int) (a1 : Int) (a2 : Int), (Lit.int .u32 a0).wf = true → (Lit.int .u16 a1).wf = true → (Lit.int .u16 a2).wf = true → ∃ k, reveillelaw12_LevelLaps.f k a0 a1 a2 = some true
theorem reveillelaw12_LevelLaps.walk (P : reveillelaw12_LevelLaps.Pure) (a0 : Int) (a1 : Int) (a2 : Int) (w : World) (w0 : (Lit.int .u32 a0).wf = true) (w1 : (Lit.int .u16 a1).wf = true) (w2 : (Lit.int .u16 a2).wf = true) :
    Calls Try.prog 3 #[.int .u32 a0, .int .u16 a1, .int .u16 a2] w fun e w' => e = .returned (.bool true) ∧ Below w.heap.size w w' := by
  obtain ⟨k, h⟩ := P a0 a1 a2 w0 w1 w2
  refine (reveillelaw12_LevelLaps.calls k a0 a1 a2 true w h).mono ?_
  rintro e w' ⟨rfl, hd⟩
  exact ⟨rfl, hd⟩

end Go.Proofs.Ytnlpohcnlmdocaa.PLevelLaps
