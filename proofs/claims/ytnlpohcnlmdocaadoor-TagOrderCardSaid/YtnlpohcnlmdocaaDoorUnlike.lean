/- Whether the texts of a list are unlike: by sorting them and taking out neighbours that are the same. -/
import Derived.Test.YtnlpohcnlmdocaaDoorSorted
import Derived.Lib.SlicesCompact
namespace Go.Proofs.YtnlpohcnlmdocaaDoor
open Go.RowKit Go.Shelf Go.Sort

theorem compact_nodup (zs : List (List UInt8)) (hS : zs.Pairwise (· ≤ ·)) : decide ((Lib.compact zs).length = zs.length) = decide zs.Nodup := by
  have hget : ∀ j, (h : j < zs.length) → zs.toArray[j]! = zs[j] := fun j h => by rw [getElem!_pos zs.toArray j (by simpa using h)]; rfl
  have hlen : (Lib.compact zs).length = zs.length ↔ ∀ j, j < zs.length → Lib.keeps zs.toArray j = true := by
    constructor
    · intro h j hj
      unfold Lib.compact Lib.compactUpTo at h
      rw [List.length_map] at h
      have h2 : ((List.range zs.length).filter (Lib.keeps zs.toArray)).length = (List.range zs.length).length := by rw [h, List.length_range]
      have h3 := List.length_filter_eq_length_iff.mp h2
      exact h3 j (List.mem_range.mpr hj)
    · intro h
      rw [Lib.compact_all zs h]
  have hP := List.pairwise_iff_getElem.mp hS
  rw [decide_eq_decide, hlen]
  constructor
  · intro h
    rw [List.Nodup, List.pairwise_iff_getElem]
    intro i j hi hj hij e
    have h1 := h (i + 1) (by omega)
    unfold Lib.keeps at h1
    rw [decide_eq_true_iff] at h1
    rcases h1 with h1 | h1
    · omega
    · apply h1
      rw [hget (i + 1) (by omega), hget (i + 1 - 1) (by omega)]
      have ha : zs[i] ≤ zs[i + 1] := hP i (i + 1) hi (by omega) (by omega)
      have hb : zs[i + 1] ≤ zs[j] := by
        rcases Nat.lt_or_ge (i + 1) j with h2 | h2
        · exact hP (i + 1) j (by omega) hj h2
        · have : j = i + 1 := by omega
          subst this; exact List.le_refl _
      exact List.le_antisymm (by rw [← e] at hb; exact hb) ha
  · intro h j hj
    unfold Lib.keeps
    rw [decide_eq_true_iff]
    rcases Nat.eq_zero_or_pos j with h0 | h0
    · exact .inl h0
    · right
      rw [hget j hj, hget (j - 1) (by omega)]
      have := (List.pairwise_iff_getElem.mp h) (j - 1) j (by omega) hj (by omega)
      exact fun e => this e.symm

theorem sortedL_perm (l : List ByteArray) : (sortedL l).Perm (l.map L) := List.mergeSort_perm _ _
theorem sortedL_pair (l : List ByteArray) : (sortedL l).Pairwise (· ≤ ·) := by
  have := List.pairwise_mergeSort (le := fun x y : List UInt8 => decide (x ≤ y)) (by intro a b c h1 h2; simp only [decide_eq_true_eq] at *; exact List.le_trans h1 h2) (by intro a b; simp only [Bool.or_eq_true, decide_eq_true_eq]; exact List.le_total a b) (l.map L)
  exact this.imp (by intro a b h; simpa using h)
theorem sortedL_len (l : List ByteArray) : (sortedL l).length = l.length := by rw [(sortedL_perm l).length_eq, List.length_map]
theorem sortedL_nodup (l : List ByteArray) : (sortedL l).Nodup ↔ l.Nodup := by
  rw [(sortedL_perm l).nodup_iff]
  constructor
  · intro h
    rw [List.Nodup, List.pairwise_map] at h
    exact h.imp fun h e => h (by rw [e])
  · intro h
    rw [List.Nodup, List.pairwise_map]
    exact h.imp fun h e => h (L_inj e)
theorem compact_sorted (l : List ByteArray) : decide ((Lib.compact (sortedL l)).length = l.length) = decide l.Nodup := by
  have := compact_nodup (sortedL l) (sortedL_pair l)
  rw [sortedL_len] at this
  rw [this, decide_eq_decide]; exact sortedL_nodup l

theorem below_putRow {α : Type} [Inhabited α] (enc : α → Value) {B0 blk off : Nat} (d : Array α) (w : World) (h : B0 ≤ blk) : RowKit.Below B0 w (putRow enc w blk off d) :=
  ⟨rfl, rfl, rfl, by simp [putRow, mapBlock], fun k hk => by
    show (w.heap.modify blk _)[k]? = _
    rw [Array.getElem?_modify, if_neg (by omega)]⟩
theorem below_ahead (B0 : Nat) (w : World) (q : Nat) : RowKit.Below B0 w (Sort.ahead w q) := ⟨rfl, rfl, rfl, Nat.le_refl _, fun _ _ => rfl⟩

theorem int_beq (a b : Nat) : ((a : Int) == (b : Int)) = decide (a = b) := by rw [Bool.eq_iff_iff, beq_iff_eq, decide_eq_true_iff]; omega

/-- The length of what is left, as the code asks it. -/
def compLen (l : List ByteArray) : Nat := (Lib.compact (sortedL l)).length

set_option maxHeartbeats 1000000 in
/-- slices.Compact at a sorted list: how many are left. -/
theorem compact_any (w : World) (B0 : Nat) (v : Value) (l : List ByteArray) (hrow : w.ownsRow B0 9 1 v l.length ((sortedL l).map encStr)) (hn : l.length ≤ 9223372036854775806) :
    Calls Tryd.prog 16 #[v] w fun e w' => (∃ a c, e = .returned (.slice a (compLen l) c)) ∧ Below B0 w w' := by
  rcases hrow.2 with ⟨rfl, hz⟩ | ⟨gb, cap, cur, rfl, hbase, hgb, r1, r2, r3, r4⟩
  · have hl : l = [] := List.length_eq_zero_iff.mp hz
    subst hl
    refine (Tryd.slices_Compact_string_empty none 0 w).mono ?_
    rintro e w' ⟨rfl, rfl⟩
    have h0 : compLen [] = 0 := by simp [compLen, sortedL, Lib.compact, Lib.compactUpTo]
    exact ⟨⟨none, 0, by rw [h0]⟩, Below.refl _ _⟩
  · have hH : Holds encStr w gb 0 (sortedL l).toArray := holds_of_block hgb (by rw [sortedL_len]; simpa using r4)
    have := Tryd.slices_Compact_string gb 0 cap (sortedL l) w hH (by rw [sortedL_len]; omega) (by rw [sortedL_len]; exact r1)
    rw [sortedL_len] at this
    refine this.mono ?_
    rintro e w' ⟨rfl, q, rfl⟩
    exact ⟨⟨_, _, rfl⟩, (below_ahead B0 w q).trans (below_putRow encStr _ _ hbase)⟩

end Go.Proofs.YtnlpohcnlmdocaaDoor
