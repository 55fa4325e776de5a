/- Four tables: crc.New, its walk. -/
import Derived.Test.YtnlpohcnlmdocaaGreatNewT
namespace Go.Proofs.YtnlpohcnlmdocaaGreat
open Go.Shelf Go.RowKit
set_option linter.unusedVariables false
set_option linter.unusedSimpArgs false

set_option maxRecDepth 100000 in
set_option maxHeartbeats 8000000 in
theorem new_any (w : World) :
    Calls Tryz.prog 6 #[] w fun e w' => e = .returned (.pointer (some ⟨w.heap.size, 0, none⟩)) ∧ TabAt w' w.heap.size ∧ Below w.heap.size w w' := by
  have hb : ∀ w, (Instr.build 47 #[]).run Tryz.prog w = .ok (.agg zerosT) w := fun w => run_build w 47 _ _ built_zeros
  have hx := run_box_zeros
  have b0 : Blk (w.alloc (.cells zerosT 47)) w.heap.size 47 (fillT 0) := by rw [← fillT_zero]; exact Blk.new w 47 zerosT
  have HB0 := Lib.hid (show Below w.heap.size w (w.alloc (.cells zerosT 47)) from balloc (Below.refl _ _))
  obtain ⟨g, hg⟩ : ∃ g, w.heap.size = g := ⟨_, rfl⟩
  have HGe := Lib.hid hg
  rw [hg] at b0 ⊢
  go_enter Tryz.func6, Tryz.ntmps6
  go_wp2
  clear hb hx hg
  go_loopw [8] (fun i wr => ∃ k : Nat, k ≤ 256 ∧ i = .int .i64 k ∧ Blk wr g 47 (fillT k) ∧ Hid (Below w.heap.size w wr)) (fun i _ => 256 - (intOf i).toNat)
  case atStart => exact ⟨0, Nat.zero_le _, rfl, b0, HB0⟩
  case round =>
    obtain ⟨k, hk, rfl, bk, HB⟩ := hrel
    by_cases hlt : k < 256
    · have hk256 := hlt
      have HG := Lib.hid bk
      have hw3 : IntKind.u32.wrap (k : Int) = (k : Int) := by rw [IntKind.wrap_u32']; omega
      have HST := Lib.hid (set_twice (n := k) (v := .int .u32 (tabC 0 k)) (by rw [show k / 256 = 0 by omega, show k % 256 = k by omega]))
      go_wp2
      refine wp_region_put (by kernel_rfl) (LeG g 47 (fillT (k + 1))) (new1R g k) (by kernel_rfl) ?_ ?_ ?_ ?_ ?_
      · exact LeG.drew _
      · exact fun _ _ _ h1 h2 => h1.trans h2
      · exact new1R_mono g k
      · refine ⟨?_, ?_, ?_, ?_, ?_, ?_, ?_, ?_, ?_, ?_, trivial⟩
        · intro a w' hle hk hR K hK
          have k1 : a.tmps[1]?.getD undef = .pointer (some ⟨g, 0, none⟩) := hk 1 (by kernel_rfl)
          refine ite_yes rfl ?_
          go_simp
          exact hK _ _ (LeG.refl _ _ _ _) rfl
        · intro a w' hle hk hR K hK
          have k2 : a.tmps[2]?.getD undef = .int .i64 k := hk 2 (by kernel_rfl)
          refine ite_yes rfl ?_
          go_simp
          exact hK _ _ (LeG.refl _ _ _ _) rfl
        · intro a w' hle hk hR K hK
          have k2 : a.tmps[2]?.getD undef = .int .i64 k := hk 2 (by kernel_rfl)
          refine ite_yes rfl ?_
          go_simp
          exact hK _ _ (LeG.refl _ _ _ _) rfl
        · intro a w' hle hk hR K hK
          have k13 : a.tmps[13]?.getD undef = .int .i64 k := hR 2 (by kernel_rfl)
          refine ite_yes rfl ?_
          go_simp
          exact hK _ _ (LeG.refl _ _ _ _) rfl
        · intro a w' hle hk hR K hK
          have k14 : a.tmps[14]?.getD undef = .int .u32 k := hR 3 (by kernel_rfl)
          refine ite_yes rfl ?_
          go_simp
          refine (first_any k w' hk256).mono ?_
          rintro x w'' ⟨rfl, rfl⟩
          exact hK _ _ (LeG.refl _ _ _ _) rfl
        · intro a w' hle hk hR K hK
          have k11 : a.tmps[11]?.getD undef = .pointer (some ⟨g, 0, none⟩) := hR 0 (by kernel_rfl)
          refine ite_yes rfl ?_
          go_simp
          exact hK _ _ (LeG.refl _ _ _ _) rfl
        · intro a w' hle hk hR K hK
          have k16 : a.tmps[16]?.getD undef = .pointer (some ⟨g, 0, none⟩) := hR 5 (by kernel_rfl)
          refine ite_yes rfl ?_
          go_simp
          exact hK _ _ (LeG.refl _ _ _ _) rfl
        · intro a w' hle hk hR K hK
          have k17 : a.tmps[17]?.getD undef = .pointer (some ⟨g, 0, none⟩) := hR 6 (by kernel_rfl)
          refine ite_yes rfl ?_
          go_simp
          exact hK _ _ (LeG.refl _ _ _ _) rfl
        · intro a w' hle hk hR K hK
          have k18 : a.tmps[18]?.getD undef = .pointer (some ⟨g, 0, none⟩) := hR 7 (by kernel_rfl)
          have k12 : a.tmps[12]?.getD undef = .int .i64 k := hR 1 (by kernel_rfl)
          refine ite_yes rfl ?_
          go_simp
          exact hK _ _ (LeG.refl _ _ _ _) rfl
        · intro a w' hle hk hR K hK
          refine ite_yes rfl ?_
          have k19 : a.eval (.tmp 19) = .pointer (some ⟨g, k, none⟩) := (getD_opt' _ _ _).trans (hR 8 (by kernel_rfl))
          have k15 : a.eval (.tmp 15) = .int .u32 (tabC 0 k) := (getD_opt' _ _ _).trans (hR 4 (by kernel_rfl))
          obtain ⟨cs, hbc, hcs⟩ := HG.out.someOf hle
          refine wp_put (ty := 42) (x := .tmp 19) (y := .tmp 15) (g := g) (i := k) rfl rfl k19 k15 rfl (by kernel_rfl) hbc (by rcases hcs with rfl | rfl <;> rw [fillT_size] <;> omega) (fun w'' hb hbt => ?_)
          have hb2 : Blk w'' g 47 (fillT (k + 1)) := by
            rcases hcs with rfl | rfl
            · rw [← HST.out.1]; exact hb
            · rw [← HST.out.2]; exact hb
          exact hK undef _ ⟨hbt.bt, .inr hb2⟩ hb2
      · intro f w' hle hR hN
        have f11 : f 11 = .pointer (some ⟨g, 0, none⟩) := hR 0 11 (by kernel_rfl)
        have f12 : f 12 = .int .i64 k := hR 1 12 (by kernel_rfl)
        have f13 : f 13 = .int .i64 k := hR 2 13 (by kernel_rfl)
        have f14 : f 14 = .int .u32 k := hR 3 14 (by kernel_rfl)
        have f15 : f 15 = .int .u32 (tabC 0 k) := hR 4 15 (by kernel_rfl)
        have f16 : f 16 = .pointer (some ⟨g, 0, none⟩) := hR 5 16 (by kernel_rfl)
        have f17 : f 17 = .pointer (some ⟨g, 0, none⟩) := hR 6 17 (by kernel_rfl)
        have f18 : f 18 = .pointer (some ⟨g, 0, none⟩) := hR 7 18 (by kernel_rfl)
        have f19 : f 19 = .pointer (some ⟨g, k, none⟩) := hR 8 19 (by kernel_rfl)
        simp only [putAll, List.foldl_cons, List.foldl_nil, f11, f12, f13, f14, f15, f16, f17, f18, f19, List.setIfInBounds_toArray, List.set_cons_succ, List.set_cons_zero]
        clear f11 f12 f13 f14 f15 f16 f17 f18 f19
        have hbn : Blk w' g 47 (fillT (k + 1)) := hN 9 (by decide) rfl
        have HB2 : Below w.heap.size w w' := HB.out.trans (hle.1.below (Nat.le_of_eq HGe.out) HB.out.size)
        go_wp2
        go_roundw
        case rel => exact ⟨k + 1, by omega, by go_num, hbn, HB2⟩
        case measure => simp [intOf]; omega
    · obtain rfl : k = 256 := by omega
      clear hk hlt
      have HB1 := HB
      go_wp2
      go_loopw [3] (fun q wr => ∃ p : Nat, p ≤ 3 ∧ q = .int .i64 ((p + 1 : Nat) : Int) ∧ Blk wr g 47 (fillT (256 * (p + 1))) ∧ Hid (Below w.heap.size w wr)) (fun q _ => 4 - (intOf q).toNat)
      case atStart => exact ⟨0, Nat.zero_le _, rfl, bk, HB1⟩
      case round =>
        obtain ⟨p, hp, rfl, bp, HBp⟩ := hrel
        obtain ⟨q, hq⟩ : ∃ q, p + 1 = q := ⟨_, rfl⟩
        rw [hq] at bp ⊢
        by_cases hlt3 : q < 4
        · go_wp2
          have bp0 : Blk wr g 47 (fillT (256 * q + 0)) := bp
          go_loopw [25] (fun i wr => ∃ j : Nat, j ≤ 256 ∧ i = .int .i64 j ∧ Blk wr g 47 (fillT (256 * q + j)) ∧ Hid (Below w.heap.size w wr)) (fun i _ => 256 - (intOf i).toNat)
          case atStart => exact ⟨0, Nat.zero_le _, rfl, bp0, HBp⟩
          case round =>
            obtain ⟨j, hj, rfl, bj, HBj⟩ := hrel
            by_cases hltj : j < 256
            · have hv : tabC p j < 4294967296 := tabC_lt hltj
              have HG := Lib.hid bj
              have HST := Lib.hid (set_twice (n := 256 * q + j) (v := .int .u32 (tabC q j)) (by rw [show (256 * q + j) / 256 = q by omega, show (256 * q + j) % 256 = j by omega]))
              have h256 : tabC p j % 256 < 256 := by omega
              have HX := Lib.hid (show bits .xor .u32 (tabC 0 (tabC p j % 256) : Int) ((tabC p j : Int) / 256) = ((tabC q j : Nat) : Int) by
                have hx := u32_xor_nat (tabC 0 (tabC p j % 256)) (tabC p j / 256) (tabC_lt h256) (by omega)
                rw [← tabC_next, hq, show ((tabC p j / 256 : Nat) : Int) = (tabC p j : Int) / 256 by omega] at hx
                exact hx)
              have HC : Hid (∀ w', LeG g 47 (fillT (256 * q + j + 1)) wr w' → w'.cell? ⟨g, tabC p j % 256, none⟩ = some (.int .u32 (tabC 0 (tabC p j % 256)))) := by
                intro w' hle
                obtain ⟨cs, hbc, hcs⟩ := HG.out.someOf hle
                rw [hbc.cell]
                have e : ∀ n, 256 ≤ n → (fillT n)[tabC p j % 256]? = some (.int .u32 (tabC 0 (tabC p j % 256))) := fun n hn => by
                  rw [fillT_get (by omega) (by omega), show tabC p j % 256 / 256 = 0 by omega, show tabC p j % 256 % 256 = tabC p j % 256 by omega]
                rcases hcs with rfl | rfl
                · exact e _ (by omega)
                · exact e _ (by omega)
              have hcp : wr.cell? ⟨g, p * 256 + j, none⟩ = some (.int .u32 (tabC p j)) := by
                rw [show p * 256 + j = 256 * p + j by omega, bj.cell, fillT_get (by omega) (by omega), show (256 * p + j) / 256 = p by omega, show (256 * p + j) % 256 = j by omega]
              have hp1 : (q : Int) - 1 = (p : Int) := by omega
              have hq0 : (0 : Int) ≤ (q : Int) := by omega
              have hq4 : (q : Int) < 4 := by omega
              have hp0 : (0 : Int) ≤ (p : Int) := by omega
              have hp4 : (p : Int) < 4 := by omega
              have hj0 : (0 : Int) ≤ (j : Int) := by omega
              have hj4 : (j : Int) < 256 := by omega
              go_wp2
              refine wp_region_put (by kernel_rfl) (LeG g 47 (fillT (256 * q + j + 1))) (new3R g p q j) (by kernel_rfl) ?_ ?_ ?_ ?_ ?_
              · exact LeG.drew _
              · exact fun _ _ _ h1 h2 => h1.trans h2
              · exact new3R_mono g p q j
              · refine ⟨?_, ?_, ?_, ?_, ?_, ?_, ?_, ?_, ?_, ?_, ?_, ?_, ?_, ?_, ?_, ?_, ?_, ?_, ?_, trivial⟩
                · intro a w' hle hk hR K hK
                  have k1 : a.tmps[1]?.getD undef = .pointer (some ⟨g, 0, none⟩) := hk 1 (by kernel_rfl)
                  refine ite_yes rfl ?_
                  go_simp
                  exact hK _ _ (LeG.refl _ _ _ _) rfl
                · intro a w' hle hk hR K hK
                  have k3 : a.tmps[3]?.getD undef = .int .i64 q := hk 3 (by kernel_rfl)
                  refine ite_yes rfl ?_
                  go_simp
                  exact hK _ _ (LeG.refl _ _ _ _) rfl
                · intro a w' hle hk hR K hK
                  have k4 : a.tmps[4]?.getD undef = .int .i64 j := hk 4 (by kernel_rfl)
                  refine ite_yes rfl ?_
                  go_simp
                  exact hK _ _ (LeG.refl _ _ _ _) rfl
                · intro a w' hle hk hR K hK
                  have k1 : a.tmps[1]?.getD undef = .pointer (some ⟨g, 0, none⟩) := hk 1 (by kernel_rfl)
                  refine ite_yes rfl ?_
                  go_simp
                  exact hK _ _ (LeG.refl _ _ _ _) rfl
                · intro a w' hle hk hR K hK
                  have k5 : a.tmps[5]?.getD undef = .int .u32 (tabC p j) := hk 5 (by kernel_rfl)
                  refine ite_yes rfl ?_
                  go_simp
                  exact hK _ _ (LeG.refl _ _ _ _) rfl
                · intro a w' hle hk hR K hK
                  have k41 : a.tmps[41]?.getD undef = .int .u32 (tabC p j) := hR 4 (by kernel_rfl)
                  refine ite_yes rfl ?_
                  have ha := and255_u32 (tabC p j) hv
                  go_simp
                  exact hK _ _ (LeG.refl _ _ _ _) rfl
                · intro a w' hle hk hR K hK
                  have k40 : a.tmps[40]?.getD undef = .pointer (some ⟨g, 0, none⟩) := hR 3 (by kernel_rfl)
                  refine ite_yes rfl ?_
                  go_simp
                  exact hK _ _ (LeG.refl _ _ _ _) rfl
                · intro a w' hle hk hR K hK
                  have k43 : a.tmps[43]?.getD undef = .pointer (some ⟨g, 0, none⟩) := hR 6 (by kernel_rfl)
                  refine ite_yes rfl ?_
                  go_simp
                  exact hK _ _ (LeG.refl _ _ _ _) rfl
                · intro a w' hle hk hR K hK
                  have k44 : a.tmps[44]?.getD undef = .pointer (some ⟨g, 0, none⟩) := hR 7 (by kernel_rfl)
                  refine ite_yes rfl ?_
                  go_simp
                  exact hK _ _ (LeG.refl _ _ _ _) rfl
                · intro a w' hle hk hR K hK
                  have k45 : a.tmps[45]?.getD undef = .pointer (some ⟨g, 0, none⟩) := hR 8 (by kernel_rfl)
                  have k42 : a.tmps[42]?.getD undef = .int .u32 ((tabC p j % 256 : Nat) : Int) := hR 5 (by kernel_rfl)
                  refine ite_yes rfl ?_
                  have hlt6 : tabC p j % 256 < 256 := by omega
                  obtain ⟨i6, hi6⟩ : ∃ i6, tabC p j % 256 = i6 := ⟨_, rfl⟩
                  rw [hi6] at hlt6 k42
                  have h0 : (0 : Int) ≤ (i6 : Int) := by omega
                  have h1 : (i6 : Int) < 256 := by omega
                  go_simp
                  exact hK _ _ (LeG.refl _ _ _ _) (by show Value.pointer _ = _; rw [hi6])
                · intro a w' hle hk hR K hK
                  have k46 : a.tmps[46]?.getD undef = .pointer (some ⟨g, tabC p j % 256, none⟩) := hR 9 (by kernel_rfl)
                  refine ite_yes rfl ?_
                  have c0 := HC.out w' hle
                  go_simp
                  exact hK _ _ (LeG.refl _ _ _ _) rfl
                · intro a w' hle hk hR K hK
                  have k5 : a.tmps[5]?.getD undef = .int .u32 (tabC p j) := hk 5 (by kernel_rfl)
                  refine ite_yes rfl ?_
                  go_simp
                  exact hK _ _ (LeG.refl _ _ _ _) rfl
                · intro a w' hle hk hR K hK
                  have k48 : a.tmps[48]?.getD undef = .int .u32 (tabC p j) := hR 11 (by kernel_rfl)
                  refine ite_yes rfl ?_
                  go_simp
                  exact hK _ _ (LeG.refl _ _ _ _) rfl
                · intro a w' hle hk hR K hK
                  have k47 : a.tmps[47]?.getD undef = .int .u32 (tabC 0 (tabC p j % 256)) := hR 10 (by kernel_rfl)
                  have k49 : a.tmps[49]?.getD undef = .int .u32 ((tabC p j : Int) / 256) := hR 12 (by kernel_rfl)
                  refine ite_yes rfl ?_
                  go_simp
                  exact hK _ _ (LeG.refl _ _ _ _) (by show Value.int _ _ = _; rw [HX.out])
                · intro a w' hle hk hR K hK
                  have k37 : a.tmps[37]?.getD undef = .pointer (some ⟨g, 0, none⟩) := hR 0 (by kernel_rfl)
                  refine ite_yes rfl ?_
                  go_simp
                  exact hK _ _ (LeG.refl _ _ _ _) rfl
                · intro a w' hle hk hR K hK
                  have k51 : a.tmps[51]?.getD undef = .pointer (some ⟨g, 0, none⟩) := hR 14 (by kernel_rfl)
                  refine ite_yes rfl ?_
                  go_simp
                  exact hK _ _ (LeG.refl _ _ _ _) rfl
                · intro a w' hle hk hR K hK
                  have k52 : a.tmps[52]?.getD undef = .pointer (some ⟨g, 0, none⟩) := hR 15 (by kernel_rfl)
                  have k38 : a.tmps[38]?.getD undef = .int .i64 q := hR 1 (by kernel_rfl)
                  refine ite_yes rfl ?_
                  go_simp
                  exact hK _ _ (LeG.refl _ _ _ _) (by show Value.pointer _ = _; congr 3; omega)
                · intro a w' hle hk hR K hK
                  have k53 : a.tmps[53]?.getD undef = .pointer (some ⟨g, 256 * q, none⟩) := hR 16 (by kernel_rfl)
                  have k39 : a.tmps[39]?.getD undef = .int .i64 j := hR 2 (by kernel_rfl)
                  refine ite_yes rfl ?_
                  go_simp
                  exact hK _ _ (LeG.refl _ _ _ _) rfl
                · intro a w' hle hk hR K hK
                  refine ite_yes rfl ?_
                  have k54 : a.eval (.tmp 54) = .pointer (some ⟨g, 256 * q + j, none⟩) := (getD_opt' _ _ _).trans (hR 17 (by kernel_rfl))
                  have k50 : a.eval (.tmp 50) = .int .u32 (tabC q j) := (getD_opt' _ _ _).trans (hR 13 (by kernel_rfl))
                  obtain ⟨cs, hbc, hcs⟩ := HG.out.someOf hle
                  refine wp_put (ty := 42) (x := .tmp 54) (y := .tmp 50) (g := g) (i := 256 * q + j) rfl rfl k54 k50 rfl (by kernel_rfl) hbc (by rcases hcs with rfl | rfl <;> rw [fillT_size] <;> omega) (fun w'' hb hbt => ?_)
                  have hb2 : Blk w'' g 47 (fillT (256 * q + j + 1)) := by
                    rcases hcs with rfl | rfl
                    · rw [← HST.out.1]; exact hb
                    · rw [← HST.out.2]; exact hb
                  exact hK undef _ ⟨hbt.bt, .inr hb2⟩ hb2
              · intro f w' hle hR hN
                have f37 : f 37 = .pointer (some ⟨g, 0, none⟩) := hR 0 37 (by kernel_rfl)
                have f38 : f 38 = .int .i64 q := hR 1 38 (by kernel_rfl)
                have f39 : f 39 = .int .i64 j := hR 2 39 (by kernel_rfl)
                have f40 : f 40 = .pointer (some ⟨g, 0, none⟩) := hR 3 40 (by kernel_rfl)
                have f41 : f 41 = .int .u32 (tabC p j) := hR 4 41 (by kernel_rfl)
                have f42 : f 42 = .int .u32 ((tabC p j % 256 : Nat) : Int) := hR 5 42 (by kernel_rfl)
                have f43 : f 43 = .pointer (some ⟨g, 0, none⟩) := hR 6 43 (by kernel_rfl)
                have f44 : f 44 = .pointer (some ⟨g, 0, none⟩) := hR 7 44 (by kernel_rfl)
                have f45 : f 45 = .pointer (some ⟨g, 0, none⟩) := hR 8 45 (by kernel_rfl)
                have f46 : f 46 = .pointer (some ⟨g, tabC p j % 256, none⟩) := hR 9 46 (by kernel_rfl)
                have f47 : f 47 = .int .u32 (tabC 0 (tabC p j % 256)) := hR 10 47 (by kernel_rfl)
                have f48 : f 48 = .int .u32 (tabC p j) := hR 11 48 (by kernel_rfl)
                have f49 : f 49 = .int .u32 ((tabC p j : Int) / 256) := hR 12 49 (by kernel_rfl)
                have f50 : f 50 = .int .u32 (tabC q j) := hR 13 50 (by kernel_rfl)
                have f51 : f 51 = .pointer (some ⟨g, 0, none⟩) := hR 14 51 (by kernel_rfl)
                have f52 : f 52 = .pointer (some ⟨g, 0, none⟩) := hR 15 52 (by kernel_rfl)
                have f53 : f 53 = .pointer (some ⟨g, 256 * q, none⟩) := hR 16 53 (by kernel_rfl)
                have f54 : f 54 = .pointer (some ⟨g, 256 * q + j, none⟩) := hR 17 54 (by kernel_rfl)
                simp only [putAll, List.foldl_cons, List.foldl_nil, f37, f38, f39, f40, f41, f42, f43, f44, f45, f46, f47, f48, f49, f50, f51, f52, f53, f54, List.setIfInBounds_toArray, List.set_cons_succ, List.set_cons_zero]
                clear f37 f38 f39 f40 f41 f42 f43 f44 f45 f46 f47 f48 f49 f50 f51 f52 f53 f54
                have hbn : Blk w' g 47 (fillT (256 * q + (j + 1))) := hN 18 (by decide) rfl
                have HB2 : Below w.heap.size w w' := HBj.out.trans (hle.1.below (Nat.le_of_eq HGe.out) HBj.out.size)
                go_wp2
                go_roundw
                case rel => exact ⟨j + 1, by omega, by go_num, hbn, HB2⟩
                case measure => simp [intOf]; omega
            · obtain rfl : j = 256 := by omega
              have bq : Blk wr g 47 (fillT (256 * (q + 1))) := bj
              go_wp2
              go_roundw
              case rel => exact ⟨q, by omega, by go_num, bq, HBj⟩
              case measure => simp [intOf]; omega
        · obtain rfl : q = 4 := by omega
          have HT : TabAt wr g := fun k j hk hj => by
            rw [bp.cell, fillT_get (by omega) (by omega), show (256 * k + j) / 256 = k by omega, show (256 * k + j) % 256 = j by omega]
          have HBf : Below g w wr := by rw [← HGe.out]; exact HBp.out
          have HTh := Lib.hid HT
          clear HT bp
          go_wp2
          go_ret
          exact ⟨rfl, HTh.out, HBf⟩


end Go.Proofs.YtnlpohcnlmdocaaGreat
