/- What is still to come: what is over is left out: slices.DeleteFunc by a method's value. -/
import Derived.Test.YtnlpohcnlmdocaaPend4
import Derived.Lib.SliceRun
namespace Go.Proofs.Ytnlpohcnlmdocaa
open Go.RowKit Go.Shelf Go.Maps Go.Sort
set_option linter.unusedSimpArgs false
set_option linter.unusedVariables false

def keepL (D : DataW Unit) (l : List Int) : List Int := l.filter fun x => !overB D x

theorem row_shrink {w : World} {B0 q c n k : Nat} {e : TypeId} {xs : List Value} (h : w.ownsRow B0 e 1 (.slice (some ⟨q, 0, none⟩) n c) n xs) (hk : k ≤ n) : w.ownsRow B0 e 1 (.slice (some ⟨q, 0, none⟩) k c) k (xs.take k) := by
  have hl := h.1
  rcases h.2 with ⟨h', _⟩ | ⟨g', cap', cur, h', hb, hg, hnc, hcm, hcs, htake⟩
  · simp at h'
  · simp only [Value.slice.injEq, Option.some.injEq, Addr.mk.injEq, and_true, true_and] at h'
    obtain ⟨rfl, rfl⟩ := h'
    refine ⟨by rw [List.length_take, hl]; omega, .inr ⟨q, c, cur, rfl, hb, hg, by omega, hcm, hcs, ?_⟩⟩
    rw [← htake, List.take_take]; congr 1; omega
theorem row_cells {B0 q c n k : Nat} {e : TypeId} : ∀ (vs : List Value) (o : Nat) (w : World) (xs : List Value), w.ownsRow B0 e 1 (.slice (some ⟨q, 0, none⟩) n c) n xs → k ≤ o →
    ∃ xs', (w.setCells q o vs).ownsRow B0 e 1 (.slice (some ⟨q, 0, none⟩) n c) n xs' ∧ xs'.take k = xs.take k ∧ w.grownBy (w.setCells q o vs) (some q)
  | [], o, w, xs, h, _ => ⟨xs, h, rfl, World.grownBy.refl w _⟩
  | v :: vs, o, w, xs, h, hk => by
    obtain ⟨h1, g1⟩ := h.stored o v
    obtain ⟨xs', h2, e2, g2⟩ := row_cells (k := k) vs (o + 1) (w.setCell ⟨q, o, none⟩ v) (xs.set o v) h1 (by omega)
    exact ⟨xs', h2, by rw [e2, List.take_set_of_le hk], g1.trans g2⟩
theorem PSet.far {w w' : World} {g b n q : Nat} {D : DataW Unit} (h : PSet w g b n D) (hg : w.grownBy w' (some q)) (h1 : g ≠ q) (h2 : b ≠ q) : PSet w' g b n D :=
  ⟨(hg.block g h.blk.lt (by intro e; exact h1 (Option.some.inj e))).trans h.blk, h.own.kept hg (by intro e; exact h2 (Option.some.inj e)), h.ne⟩

theorem keep_none {D : DataW Unit} {l : List Int} (h : l.any (overB D) = false) : keepL D l = l := by
  unfold keepL
  rw [List.filter_eq_self]
  intro x hx
  rw [List.any_eq_false] at h
  simpa using h x hx
theorem keep_take {D : DataW Unit} {l : List Int} {j : Nat} (h : j < l.length) : keepL D (l.take (j + 1)) = keepL D (l.take j) ++ (if overB D l[j] = true then [] else [l[j]]) := by
  unfold keepL
  rw [List.take_succ_eq_append_getElem h, List.filter_append]
  congr 1
  by_cases hx : overB D l[j] = true
  · rw [if_pos hx]; simp [hx]
  · rw [if_neg hx]; simp [hx]

/-- The row while it is gone through: what is kept ahead; what is still to be seen behind. -/
structure Mid (D : DataW Unit) (l : List Int) (j k : Nat) (xs : List Value) : Prop where
  len : xs.length = l.length
  jl : j ≤ l.length
  kj : k < j
  kk : k = (keepL D (l.take j)).length
  head : xs.take k = (keepL D (l.take j)).map encZ
  tail : ∀ i (h : i < l.length), j ≤ i → xs[i]? = some (encZ l[i])
theorem Mid.skip {D : DataW Unit} {l : List Int} {j k : Nat} {xs : List Value} (h : Mid D l j k xs) (hj : j < l.length) (ho : overB D l[j] = true) : Mid D l (j + 1) k xs := by
  have e := keep_take (D := D) hj
  rw [if_pos ho, List.append_nil] at e
  have := h.kj
  exact ⟨h.len, by omega, by omega, by rw [e]; exact h.kk, by rw [e]; exact h.head, fun i hi h2 => h.tail i hi (by omega)⟩
theorem Mid.put {D : DataW Unit} {l : List Int} {j k : Nat} {xs : List Value} (h : Mid D l j k xs) (hj : j < l.length) (ho : overB D l[j] = false) : Mid D l (j + 1) (k + 1) (xs.set k (encZ l[j])) := by
  have e := keep_take (D := D) hj
  rw [if_neg (by simp [ho])] at e
  have hk := h.kj
  have hlen := h.len
  refine ⟨by simp [h.len], by omega, by omega, by rw [e, List.length_append, ← h.kk]; rfl, ?_, fun i hi h2 => ?_⟩
  · rw [e, List.map_append, ← h.head, List.take_add_one]
    rw [List.take_set_of_le (Nat.le_refl k), List.getElem?_set_self (by omega)]; rfl
  · rw [List.getElem?_set_ne (by omega)]; exact h.tail i hi (by omega)
theorem Mid.start {D : DataW Unit} {l : List Int} {k : Nat} (h : k < l.length) (ho : overB D l[k] = true) (ha : (l.take k).any (overB D) = false) : Mid D l (k + 1) k (l.map encZ) := by
  have e := keep_take (D := D) h
  rw [if_pos ho, List.append_nil, keep_none ha] at e
  refine ⟨by simp, by omega, by omega, by rw [e, List.length_take]; omega, by rw [e, List.map_take], fun i hi _ => by simp [hi]⟩

set_option maxRecDepth 100000 in
set_option maxHeartbeats 8000000 in
theorem delete_any (B0 g b n : Nat) (D : DataW Unit) (q c : Nat) (l : List Int) (w : World) (hP : PSet w g b n D) (hrow : w.ownsRow B0 3 1 (.slice (some ⟨q, 0, none⟩) l.length c) l.length (l.map encZ)) (hgq : g ≠ q) (hbq : b ≠ q) (hwf : Wf l) (hn : l.length ≤ 1000000) :
    Calls Try.prog 37 #[.slice (some ⟨q, 0, none⟩) l.length c, .func (.func 38) #[.pointer (some ⟨g, 0, none⟩)] #[]] w fun e w' => e = .returned (.slice (some ⟨q, 0, none⟩) (keepL D l).length c) ∧ w'.ownsRow B0 3 1 (.slice (some ⟨q, 0, none⟩) (keepL D l).length c) (keepL D l).length ((keepL D l).map encZ) ∧ w.grownBy w' (some q) := by
  have hcells : ∀ j (h : j < l.length), w.cell? ⟨q, j, none⟩ = some (.int .i64 l[j]) := fun j hj => by
    rw [hrow.cellAt j (by omega)]; simp [hj, encZ]
  have hlc : l.length ≤ c := by
    rcases hrow.2 with ⟨h', _⟩ | ⟨g', cap', cur, h', _, _, hnc, _⟩
    · simp at h'
    · simp only [Value.slice.injEq, Option.some.injEq, Addr.mk.injEq, and_true, true_and] at h'
      obtain ⟨rfl, rfl⟩ := h'; exact hnc
  have hI := Lib.hid (overIdx_any g b n D q c l w hP hcells hwf hn)
  have HP := Lib.hid hP
  have HW := Lib.hid hwf
  have HR := Lib.hid hrow
  clear hP hwf hrow hcells
  go_enter Try.func37, Try.ntmps37
  go_wp2_with fail
  refine hI.out.mono ?_
  rintro e w' ⟨⟨rfl, ha⟩ | ⟨k0, hk0, rfl, ho, ha⟩, rfl⟩
  · have HK := Lib.hid (keep_none ha)
    clear ha
    go_wp2
    go_ret
    rw [HK.out]
    exact ⟨rfl, HR.out, World.grownBy.refl _ _⟩
  · have HM0 := Lib.hid (Mid.start hk0 ho ha)
    have hk1 : ((k0 : Int) == -1) = false := by rw [beq_eq_false_iff_ne]; omega
    clear ho ha hI
    go_wp2
    go_loopw [5, 6, 7] (fun i j _ wr => ∃ (k m : Nat) (xs : List Value), i = .int .i64 k ∧ j = .int .i64 m ∧ k < m ∧ m ≤ l.length ∧ Hid (Mid D l m k xs) ∧ Hid (wr.ownsRow B0 3 1 (.slice (some ⟨q, 0, none⟩) l.length c) l.length xs) ∧ Hid (w.grownBy wr (some q))) (fun _ j _ _ => l.length - (intOf j).toNat)
    case atStart => exact ⟨k0, k0 + 1, _, rfl, by go_num, by omega, by omega, HM0, HR, World.grownBy.refl w _⟩
    case round =>
      obtain ⟨k, m, xs, rfl, rfl, hkm, hml, HM, HO, HG⟩ := hrel
      by_cases hlt : m < l.length
      · have hcm : wr.cell? ⟨q, m, none⟩ = some (.int .i64 l[m]) := by rw [HO.out.cellAt m (by omega), HM.out.tail m hlt (Nat.le_refl _)]
        have hwx := HW.out l[m] (List.getElem_mem hlt)
        obtain ⟨x, hx⟩ : ∃ x, l[m] = x := ⟨_, rfl⟩
        rw [hx] at hcm hwx
        have HX := Lib.hid hx
        have HQ := Lib.hid (over_any g b n D x wr (HP.out.far HG.out hgq hbq) hwx)
        clear hx
        rcases Bool.eq_false_or_eq_true (overB D x) with hK | hK
        · have HM1 := Lib.hid (HM.out.skip hlt (by rw [HX.out]; exact hK))
          rw [hK] at HQ
          clear hK
          go_wp2_with (go_at_call 38; refine HQ.out.mono ?_; rintro e w' ⟨rfl, rfl⟩)
          go_roundw
          case rel => exact ⟨k, m + 1, xs, rfl, by go_num, by omega, by omega, HM1, HO, HG⟩
          case measure => simp [intOf]; omega
        · have HM1 := Lib.hid (HM.out.put hlt (by rw [HX.out]; exact hK))
          rw [HX.out] at HM1
          rw [hK] at HQ
          clear hK
          have hck : wr.cell? ⟨q, k, none⟩ = some (xs[k]'(by have := HM.out.len; omega)) := (HO.out.cellAt k (by omega)).trans (List.getElem?_eq_getElem _)
          have hfz := HO.out.frozenAt k
          obtain ⟨hs1, hs2⟩ := HO.out.stored k (encZ x)
          have HS1 := Lib.hid hs1
          have HS2 := Lib.hid (HG.out.trans hs2)
          have hkl : k < l.length := by omega
          clear hs1 hs2
          go_wp2_with (go_at_call 38; refine HQ.out.mono ?_; rintro e w' ⟨rfl, rfl⟩)
          go_roundw
          case rel => exact ⟨k + 1, m + 1, _, by go_num, by go_num, by omega, by omega, HM1, HS1, HS2⟩
          case measure => simp [intOf]; omega
      · obtain rfl : m = l.length := by omega
        have hkl : k < l.length := hkm
        have hcl : ∀ ty, (Builtin.clear_ #[40] ty #[.slice (some ⟨q, k, none⟩) (l.length - k) (c - k)]).run Try.prog wr = .ok (.tuple #[]) (wr.setCells q k (List.replicate (l.length - k) (.int .i64 0))) :=
          fun ty => Lib.run_clear_slice wr 40 3 ty (.int .i64 0) Try.underlying40 (fun _ => by kernel_rfl) rfl rfl q k (l.length - k) (c - k) (by omega) (fun j hj => by
            rw [HO.out.cellAt (k + j) (by omega), List.getElem?_eq_getElem (by have := HM.out.len; omega)]; rfl) (fun j hj => HO.out.frozenAt (k + j))
        obtain ⟨xs', h2, e2, g2⟩ := row_cells (k := k) (List.replicate (l.length - k) (.int .i64 0)) k wr xs HO.out (Nat.le_refl k)
        have H2 := Lib.hid h2
        have E2 := Lib.hid e2
        have G2 := Lib.hid (HG.out.trans g2)
        have hki : (k : Int) ≤ (l.length : Int) := by omega
        have hkc : (l.length : Int) ≤ (c : Int) := by omega
        have hk0' : (0 : Int) ≤ (k : Int) := by omega
        have hkc' : (k : Int) ≤ (c : Int) := by omega
        clear h2 e2 g2
        go_wp2
        go_ret
        have hkk := HM.out.kk
        have hhd := HM.out.head
        rw [List.take_length] at hkk hhd
        have h3 := row_shrink H2.out (show k ≤ l.length by omega)
        rw [E2.out, hhd] at h3
        subst hkk
        exact ⟨rfl, h3, G2.out⟩

end Go.Proofs.Ytnlpohcnlmdocaa
