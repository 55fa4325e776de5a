/- A region that draws its order, some of whose operations write: as XRel, and what holds till an operation is done. -/
import Derived.Test.YtnlpohcnlmdocaaRel
namespace Go.Proofs.Ytnlpohcnlmdocaa
set_option linter.unusedVariables false
set_option linter.unusedSimpArgs false
section
variable {P : Program} {Q : Exit → Act → World → Prop}

structure RelInvF (F : Nat → World → Prop) (l : List Oper) (a0 : Act) (w0 : World) (Le : World → World → Prop) (R : Nat → Value → World → Prop) (listed : Array Bool) (a : Act) (w : World) : Prop where
  size : listed.size = l.length
  le : Le w0 w
  defers : a.defers = a0.defers
  tsize : a.tmps.size = a0.tmps.size
  keep : ∀ t, (∀ j, j < l.length → dstOf l j = some t → listed.getD j false = false) → a.tmps[t]?.getD undef = a0.tmps[t]?.getD undef
  closed : ∀ j oj, l[j]? = some oj → listed.getD j false = true → ∀ e ∈ oj.after, Region.binds .any e = true → listed.getD e.on false = true
  got : ∀ j, j < l.length → listed.getD j false = true → R j (valOf l a j) w
  fresh : ∀ j, j < l.length → listed.getD j false = false → F j w

/-- What is asked of operation k; F j holds till j is done. -/
def RelStepF (F : Nat → World → Prop) (P : Program) (Q : Exit → Act → World → Prop) (l : List Oper) (a0 : Act) (w0 : World) (Le : World → World → Prop) (R : Nat → Value → World → Prop) (k : Nat) (o : Oper) : Prop :=
  ∀ (a : Act) (w : World), Le w0 w → F k w → (∀ t, lateB l k t = true → a.tmps[t]?.getD undef = a0.tmps[t]?.getD undef) → (∀ j, depF l l.length k j = true → R j (valOf l a j) w) →
    ∀ K : Act → World → Prop, (∀ v w', Le w w' → (∀ j, j ≠ k → F j w → F j w') → R k (match o.dst with | some _ => v | none => undef) w' → K (a.put o.dst v) w') → if Region.wanted o (yielded l.toArray a.tmps) = true then o.wp P a w K Q else K (a.put o.dst undef) w

theorem wpAny_relF {F : Nat → World → Prop} {l : List Oper} {a0 : Act} {w0 : World} {Le : World → World → Prop} {R : Nat → Value → World → Prop} (hB : relB l a0.tmps.size = true) (htrans : ∀ a b c, Le a b → Le b c → Le a c) (hmono : ∀ i v w1 w2, Le w1 w2 → R i v w1 → R i v w2)
    (hS : RelSteps (RelStepF F P Q l a0 w0 Le R) 0 l)
    (hend : ∀ a w, Le w0 w → a.defers = a0.defers → a.tmps.size = a0.tmps.size → (∀ t, isDst l t = false → a.tmps[t]?.getD undef = a0.tmps[t]?.getD undef) → (∀ j, j < l.length → R j (valOf l a j) w) → Q .normal a w) :
    ∀ (fuel : Nat) (listed : Array Bool) (a : Act) (w : World), listed.toList.count false ≤ fuel → RelInvF F l a0 w0 Le R listed a w → wpAny P .any l.toArray Q fuel listed a w := by
  have all : ∀ (listed : Array Bool) (a : Act) (w : World), RelInvF F l a0 w0 Le R listed a w → Region.ready .any l.toArray listed = [] → Q .normal a w := by
    intro listed a w inv hr
    have hall : ∀ n, ∀ j, j < n → j < l.length → listed.getD j false = true := by
      intro n
      induction n with
      | zero => intro j h; omega
      | succ n ih =>
        intro j hjn hj
        rcases Nat.lt_or_ge j n with h1 | h1
        · exact ih j h1 hj
        · obtain rfl : j = n := by omega
          rcases Bool.eq_false_or_eq_true (listed.getD j false) with h2 | h2
          · exact h2
          · exfalso
            have hjs : j < listed.size := by rw [inv.size]; exact hj
            have : j ∈ Region.ready .any l.toArray listed := by
              rw [mem_ready]
              refine ⟨?_, l[j], by simp [hj], fun e he hb => ?_⟩
              · simp [hjs] at h2 ⊢; exact h2
              · have := (relB_spec hB (i := j) (o := l[j]) (List.getElem?_eq_getElem hj)).2.1 e he hb
                exact ih e.on this (by omega)
            rw [hr] at this; cases this
    exact hend a w inv.le inv.defers inv.tsize (fun t ht => inv.keep t fun j hj hd => absurd hd (dst_not ht hj)) fun j hj => inv.got j hj (hall l.length j hj hj)
  intro fuel
  induction fuel with
  | zero =>
    intro listed a w hc inv
    have hr : Region.ready .any l.toArray listed = [] := by
      rw [List.eq_nil_iff_forall_not_mem]
      intro j hj
      obtain ⟨h0, o, ho, _⟩ := mem_ready.1 hj
      have hjl : j < l.length := by simpa using (Array.getElem?_eq_some_iff.1 ho).1
      have hjs : j < listed.size := by rw [inv.size]; exact hjl
      have h1 : listed[j] = false := by simp [hjs] at h0; exact h0
      have : false ∈ listed.toList := by rw [← h1]; simp
      have := List.count_pos_iff.2 this
      omega
    exact ⟨hr, all _ _ _ inv hr⟩
  | succ fuel ih =>
    intro listed a w hc inv
    refine ⟨all _ _ _ inv, fun i hi => ?_⟩
    obtain ⟨h0, o, ho, hdeps⟩ := mem_ready.1 hi
    have hol : l[i]? = some o := by simpa using ho
    have hil : i < l.length := (List.getElem?_eq_some_iff.1 hol).1
    have his : i < listed.size := by rw [inv.size]; exact hil
    have hli : listed[i] = false := by simp [his] at h0; exact h0
    obtain ⟨hsz, _, hne⟩ := relB_spec hB hol
    have hstep := hS.get hol
    rw [Nat.zero_add] at hstep
    have hgot : ∀ j, depF l l.length i j = true → R j (valOf l a j) w := by
      intro j hj
      have hd : listed.getD j false = true := depF_done (done := fun j => listed.getD j false = true) inv.closed l.length i j (fun p hp e he hb => by
        rw [hol] at hp; cases hp; exact hdeps e he hb) hj
      have hjl : j < l.length := by
        rcases Nat.lt_or_ge j l.length with h1 | h1
        · exact h1
        · exfalso; rw [← inv.size] at h1; simp [Array.getElem?_eq_none h1] at hd
      exact inv.got j hjl hd
    have hlate : ∀ t, lateB l i t = true → a.tmps[t]?.getD undef = a0.tmps[t]?.getD undef := by
      intro t ht
      refine inv.keep t fun j hj hd => ?_
      have hlf : listed.getD i false = false := by simp [his, hli]
      rcases lateB_spec ht hj hd with h1 | h1
      · rw [h1]; exact hlf
      · rcases Bool.eq_false_or_eq_true (listed.getD j false) with h2 | h2
        · exfalso
          have := depF_done (done := fun j => listed.getD j false = true) inv.closed l.length j i (fun p hp e he hb => inv.closed j p hp h2 e he hb) h1
          rw [hlf] at this; cases this
        · exact h2
    have h := hstep a w inv.le (inv.fresh i hil (by simp [his, hli])) hlate hgot (wpAny P .any l.toArray Q fuel (listed.setIfInBounds i true)) (fun v w' hle hF hR => by
      apply ih
      · have := count_set (l := listed.toList) (i := i) (by simp [his, hli])
        rw [Array.toList_setIfInBounds]; omega
      · refine ⟨by simp [inv.size], htrans _ _ _ inv.le hle, by rw [defers_put, inv.defers], by rw [size_put, inv.tsize], fun t ht => ?_, fun j oj hj hl e he hb => ?_, fun j hj hl => ?_, fun j hj hl => ?_⟩
        · rw [getD_put_ne, inv.keep t]
          · intro j hj hd
            have := ht j hj hd
            by_cases hij : i = j
            · subst hij; exact absurd this (by simp [his])
            · rw [getD_set_ne false hij] at this; exact this
          · intro e
            have := ht i hil (by unfold dstOf; rw [hol]; exact e)
            exact absurd this (by simp [his])
        · by_cases hij : i = j
          · subst hij
            rw [hol] at hj; cases hj
            exact getD_set_true (hdeps e he hb)
          · rw [getD_set_ne false hij] at hl
            exact getD_set_true (inv.closed j oj hj hl e he hb)
        · by_cases hij : i = j
          · subst hij
            unfold valOf dstOf
            rw [hol]
            cases hd : o.dst with
            | none => simp only [Option.bind_some, hd] at hR ⊢; exact hR
            | some t =>
              simp only [Option.bind_some, hd] at hR ⊢
              rw [getD_put_same (by rw [inv.tsize]; exact hsz t hd)]; exact hR
          · rw [getD_set_ne false hij] at hl
            have h1 := hmono _ _ _ _ hle (inv.got j hj hl)
            have : valOf l (a.put o.dst v) j = valOf l a j := by
              unfold valOf
              cases hd : dstOf l j with
              | none => rfl
              | some t =>
                dsimp only
                rw [getD_put_ne]
                intro e
                unfold dstOf at hd
                rw [List.getElem?_eq_getElem hj] at hd
                exact hne j l[j] t (List.getElem?_eq_getElem hj) hij e (by simpa using hd)
            rw [this]; exact h1
        · have hij : i ≠ j := by
            intro e; subst e
            exact absurd hl (by simp [his])
          rw [getD_set_ne false hij] at hl
          exact hF j (fun e => hij e.symm) (inv.fresh j hj hl))
    unfold wpOp
    rw [ho]
    dsimp only
    split at h
    · rename_i hw; rw [if_pos hw]; exact .inl h
    · rename_i hw; rw [if_neg hw]; exact h

/-- EACH OPERATION ONCE. -/
theorem wp_region_relF {F : Nat → World → Prop} {id : Nat} {a : Act} {w : World} {l : List Oper} (hm : P.follows .mixedOrders = true) (Le : World → World → Prop) (R : Nat → Value → World → Prop) (hB : relB l a.tmps.size = true)
    (hF0 : ∀ j, F j w.drew) (hdrew : Le w w.drew) (htrans : ∀ a b c, Le a b → Le b c → Le a c) (hmono : ∀ i v w1 w2, Le w1 w2 → R i v w1 → R i v w2)
    (hS : RelSteps (RelStepF F P Q l a w Le R) 0 l)
    (hend : ∀ a' w', Le w w' → a'.defers = a.defers → a'.tmps.size = a.tmps.size → (∀ t, isDst l t = false → a'.tmps[t]?.getD undef = a.tmps[t]?.getD undef) → (∀ j, j < l.length → R j (valOf l a' j) w') → Q .normal a' w') : (Code.region id l.toArray true).wp P Q a w := by
  refine wp_region_any hm ?_
  have := wpAny_relF (F := F) (P := P) (Q := Q) hB htrans hmono hS hend l.length (Array.replicate l.length false) a w.drew (by simp) ⟨by simp, hdrew, rfl, rfl, fun _ _ => rfl, fun j oj hj hl => by
    exfalso
    have hjl := (List.getElem?_eq_some_iff.1 hj).1
    simp [hjl] at hl, fun j hj hl => by exfalso; simp [hj] at hl, fun j _ _ => hF0 j⟩
  simpa using this
/-- EACH OPERATION ONCE; the frame behind it written out. -/
theorem wp_region_putF {F : Nat → World → Prop} {id : Nat} {a : Act} {w : World} {l : List Oper} (hm : P.follows .mixedOrders = true) (Le : World → World → Prop) (R : Nat → Value → World → Prop) (hB : relB l a.tmps.size = true)
    (hF0 : ∀ j, F j w.drew) (hdrew : Le w w.drew) (htrans : ∀ a b c, Le a b → Le b c → Le a c) (hmono : ∀ i v w1 w2, Le w1 w2 → R i v w1 → R i v w2)
    (hS : RelSteps (RelStepF F P Q l a w Le R) 0 l)
    (hend : ∀ (f : Tmp → Value) (w' : World), Le w w' → (∀ j t, dstOf l j = some t → R j (f t) w') → (∀ j, j < l.length → dstOf l j = none → R j undef w') → Q .normal ⟨putAll l f a.tmps, a.defers⟩ w') : (Code.region id l.toArray true).wp P Q a w := by
  refine wp_region_relF (F := F) hm Le R hB hF0 hdrew htrans hmono hS fun a' w' hle hd hs hk hR => ?_
  rw [frame_putAll hd hs hk]
  refine hend _ w' hle (fun j t hj => ?_) (fun j hj hn => ?_)
  · have hjl : j < l.length := by
      rcases Nat.lt_or_ge j l.length with h | h
      · exact h
      · exfalso; unfold dstOf at hj; rw [List.getElem?_eq_none h] at hj; cases hj
    have := hR j hjl
    unfold valOf at this; rw [hj] at this; exact this
  · have := hR j hj
    unfold valOf at this; rw [hn] at this; exact this
end

end Go.Proofs.Ytnlpohcnlmdocaa
