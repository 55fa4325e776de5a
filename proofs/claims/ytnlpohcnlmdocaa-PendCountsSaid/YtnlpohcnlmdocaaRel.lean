/- A region that draws its order, told by what each operation's value is good for: each operation is walked once, whatever order comes. -/
import Derived.Orders
import Derived.KernelRfl
import Derived.WalkKit
namespace Go.Proofs.Ytnlpohcnlmdocaa
set_option linter.unusedVariables false
set_option linter.unusedSimpArgs false

/-- The slot of an operation's value. -/
def dstOf (l : List Oper) (j : Nat) : Option Tmp := (l[j]?).bind (·.dst)
/-- Must j have come up ahead of i? -/
def depF (l : List Oper) : Nat → Nat → Nat → Bool
  | 0, _, _ => false
  | f + 1, i, j => match l[i]? with
    | none => false
    | some o => o.after.any fun e => Region.binds .any e && (e.on == j || depF l f e.on j)
def isDst (l : List Oper) (t : Tmp) : Bool := l.any fun o => o.dst == some t
/-- Operation i's frame still holds slot t as it came: whoever writes it waits for i. -/
def lateB (l : List Oper) (i : Nat) (t : Tmp) : Bool := (List.range l.length).all fun j => (dstOf l j != some t) || (j == i) || depF l l.length j i
/-- The slots are unlike, and there; each edge leads back. -/
def relB (l : List Oper) (n : Nat) : Bool :=
  (List.range l.length).all fun i => match l[i]? with
    | none => true
    | some o => (match o.dst with | some t => decide (t < n) | none => true) && (o.after.all fun e => !(Region.binds .any e) || decide (e.on < i)) &&
      (List.range l.length).all fun j => (i == j) || (match l[j]? with | some p => (match o.dst with | some t => p.dst != some t | none => true) | none => true)
def valOf (l : List Oper) (a : Act) (j : Nat) : Value := match dstOf l j with
  | some t => a.tmps[t]?.getD undef
  | none => undef

theorem relB_spec {l : List Oper} {n : Nat} (h : relB l n = true) {i : Nat} {o : Oper} (hi : l[i]? = some o) :
    (∀ t, o.dst = some t → t < n) ∧ (∀ e ∈ o.after, Region.binds .any e = true → e.on < i) ∧ (∀ j p t, l[j]? = some p → i ≠ j → o.dst = some t → p.dst ≠ some t) := by
  have hl := (List.getElem?_eq_some_iff.1 hi).1
  unfold relB at h
  rw [List.all_eq_true] at h
  have h1 := h i (List.mem_range.2 hl)
  simp only [hi, Bool.and_eq_true] at h1
  obtain ⟨⟨h1, h2⟩, h3⟩ := h1
  refine ⟨fun t ht => by rw [ht] at h1; simpa using h1, fun e he hb => ?_, fun j p t hj hne ht => ?_⟩
  · rw [Array.all_eq_true_iff_forall_mem] at h2
    have := h2 e he
    simp [hb] at this; exact this
  · rw [List.all_eq_true] at h3
    have h4 := h3 j (List.mem_range.2 (List.getElem?_eq_some_iff.1 hj).1)
    simp [hj, ht, hne] at h4
    exact h4

theorem depF_done {l : List Oper} {done : Nat → Prop} (hc : ∀ j oj, l[j]? = some oj → done j → ∀ e ∈ oj.after, Region.binds .any e = true → done e.on) :
    ∀ (f i j : Nat), (∀ o, l[i]? = some o → ∀ e ∈ o.after, Region.binds .any e = true → done e.on) → depF l f i j = true → done j
  | 0, _, _, _, h => by cases h
  | f + 1, i, j, hi, h => by
    unfold depF at h
    cases ho : l[i]? with
    | none => rw [ho] at h; cases h
    | some o =>
      rw [ho] at h
      simp only [Array.any_eq_true'] at h
      obtain ⟨e, he, hb⟩ := h
      simp only [Bool.and_eq_true, Bool.or_eq_true, beq_iff_eq] at hb
      have hd := hi o ho e he hb.1
      rcases hb.2 with h1 | h1
      · rw [← h1]; exact hd
      · exact depF_done hc f e.on j (fun p hp e' he' hb' => hc e.on p hp hd e' he' hb') h1

section
variable {P : Program} {Q : Exit → Act → World → Prop}

structure RelInv (l : List Oper) (a0 : Act) (w0 : World) (Le : World → World → Prop) (R : Nat → Value → World → Prop) (listed : Array Bool) (a : Act) (w : World) : Prop where
  size : listed.size = l.length
  le : Le w0 w
  defers : a.defers = a0.defers
  tsize : a.tmps.size = a0.tmps.size
  keep : ∀ t, (∀ j, j < l.length → dstOf l j = some t → listed.getD j false = false) → a.tmps[t]?.getD undef = a0.tmps[t]?.getD undef
  closed : ∀ j oj, l[j]? = some oj → listed.getD j false = true → ∀ e ∈ oj.after, Region.binds .any e = true → listed.getD e.on false = true
  got : ∀ j, j < l.length → listed.getD j false = true → R j (valOf l a j) w

/-- What is asked of operation k. -/
def RelStep (P : Program) (Q : Exit → Act → World → Prop) (l : List Oper) (a0 : Act) (w0 : World) (Le : World → World → Prop) (R : Nat → Value → World → Prop) (k : Nat) (o : Oper) : Prop :=
  ∀ (a : Act) (w : World), Le w0 w → (∀ t, lateB l k t = true → a.tmps[t]?.getD undef = a0.tmps[t]?.getD undef) → (∀ j, depF l l.length k j = true → R j (valOf l a j) w) →
    ∀ K : Act → World → Prop, (∀ v w', Le w w' → R k (match o.dst with | some _ => v | none => undef) w' → K (a.put o.dst v) w') → if Region.wanted o (yielded l.toArray a.tmps) = true then o.wp P a w K Q else K (a.put o.dst undef) w
def RelSteps (S : Nat → Oper → Prop) : Nat → List Oper → Prop
  | _, [] => True
  | k, o :: rest => S k o ∧ RelSteps S (k + 1) rest
theorem RelSteps.get {S : Nat → Oper → Prop} : ∀ {l : List Oper} {k i : Nat} {o : Oper}, RelSteps S k l → l[i]? = some o → S (k + i) o
  | [], _, _, _, _, h => by simp at h
  | p :: l, k, 0, o, hs, h => by simp at h; subst h; exact hs.1
  | p :: l, k, i + 1, o, hs, h => by
    have := RelSteps.get (k := k + 1) (i := i) hs.2 (by simpa using h)
    rw [show k + (i + 1) = k + 1 + i by omega]; exact this

theorem count_set {l : List Bool} : ∀ {i : Nat}, l[i]? = some false → (l.set i true).count false + 1 = l.count false := by
  induction l with
  | nil => intro i h; simp at h
  | cons b l ih =>
    intro i h
    cases i with
    | zero => simp at h; subst h; simp
    | succ i =>
      have := ih (i := i) (by simpa using h)
      rw [List.set_cons_succ, List.count_cons, List.count_cons]; omega

theorem getD_put_ne {a : Act} {d : Option Tmp} {v : Value} {t : Tmp} (h : d ≠ some t) : (a.put d v).tmps[t]?.getD undef = a.tmps[t]?.getD undef := by
  cases d with
  | none => rfl
  | some d =>
    have : d ≠ t := fun e => h (by rw [e])
    simp [Act.put, Array.getElem?_setIfInBounds_ne this]
theorem getD_put_same {a : Act} {v : Value} {t : Tmp} (h : t < a.tmps.size) : (a.put (some t) v).tmps[t]?.getD undef = v := by
  simp [Act.put, h]
theorem size_put {a : Act} {d : Option Tmp} {v : Value} : (a.put d v).tmps.size = a.tmps.size := by
  cases d <;> simp [Act.put]
theorem defers_put {a : Act} {d : Option Tmp} {v : Value} : (a.put d v).defers = a.defers := by
  cases d <;> rfl

theorem dst_not {l : List Oper} {t : Tmp} (h : isDst l t = false) {j : Nat} (hj : j < l.length) : dstOf l j ≠ some t := by
  intro e
  have : isDst l t = true := by
    unfold isDst; rw [List.any_eq_true]
    unfold dstOf at e
    rw [List.getElem?_eq_getElem hj] at e
    exact ⟨l[j], List.getElem_mem hj, by simpa using e⟩
  rw [this] at h; cases h
theorem lateB_spec {l : List Oper} {i : Nat} {t : Tmp} (h : lateB l i t = true) {j : Nat} (hj : j < l.length) (hd : dstOf l j = some t) : j = i ∨ depF l l.length j i = true := by
  unfold lateB at h
  rw [List.all_eq_true] at h
  have := h j (List.mem_range.2 hj)
  rw [hd] at this
  simpa using this
theorem wpAny_rel {l : List Oper} {a0 : Act} {w0 : World} {Le : World → World → Prop} {R : Nat → Value → World → Prop} (hB : relB l a0.tmps.size = true) (htrans : ∀ a b c, Le a b → Le b c → Le a c) (hmono : ∀ i v w1 w2, Le w1 w2 → R i v w1 → R i v w2)
    (hS : RelSteps (RelStep P Q l a0 w0 Le R) 0 l)
    (hend : ∀ a w, Le w0 w → a.defers = a0.defers → a.tmps.size = a0.tmps.size → (∀ t, isDst l t = false → a.tmps[t]?.getD undef = a0.tmps[t]?.getD undef) → (∀ j, j < l.length → R j (valOf l a j) w) → Q .normal a w) :
    ∀ (fuel : Nat) (listed : Array Bool) (a : Act) (w : World), listed.toList.count false ≤ fuel → RelInv l a0 w0 Le R listed a w → wpAny P .any l.toArray Q fuel listed a w := by
  have all : ∀ (listed : Array Bool) (a : Act) (w : World), RelInv l a0 w0 Le R listed a w → Region.ready .any l.toArray listed = [] → Q .normal a w := by
    intro listed a w inv hr
    have hall : ∀ n, ∀ j, j < n → j < l.length → listed.getD j false = true := by
      intro n
      induction n with
      | zero => intro j h; omega
      | succ n ih =>
        intro j hjn hj
        rcases Nat.lt_or_ge j n with h1 | h1
        · exact ih j h1 hj
        · obtain rfl : j = n := by omega
          rcases Bool.eq_false_or_eq_true (listed.getD j false) with h2 | h2
          · exact h2
          · exfalso
            have hjs : j < listed.size := by rw [inv.size]; exact hj
            have : j ∈ Region.ready .any l.toArray listed := by
              rw [mem_ready]
              refine ⟨?_, l[j], by simp [hj], fun e he hb => ?_⟩
              · simp [hjs] at h2 ⊢; exact h2
              · have := (relB_spec hB (i := j) (o := l[j]) (List.getElem?_eq_getElem hj)).2.1 e he hb
                exact ih e.on this (by omega)
            rw [hr] at this; cases this
    exact hend a w inv.le inv.defers inv.tsize (fun t ht => inv.keep t fun j hj hd => absurd hd (dst_not ht hj)) fun j hj => inv.got j hj (hall l.length j hj hj)
  intro fuel
  induction fuel with
  | zero =>
    intro listed a w hc inv
    have hr : Region.ready .any l.toArray listed = [] := by
      rw [List.eq_nil_iff_forall_not_mem]
      intro j hj
      obtain ⟨h0, o, ho, _⟩ := mem_ready.1 hj
      have hjl : j < l.length := by simpa using (Array.getElem?_eq_some_iff.1 ho).1
      have hjs : j < listed.size := by rw [inv.size]; exact hjl
      have h1 : listed[j] = false := by simp [hjs] at h0; exact h0
      have : false ∈ listed.toList := by rw [← h1]; simp
      have := List.count_pos_iff.2 this
      omega
    exact ⟨hr, all _ _ _ inv hr⟩
  | succ fuel ih =>
    intro listed a w hc inv
    refine ⟨all _ _ _ inv, fun i hi => ?_⟩
    obtain ⟨h0, o, ho, hdeps⟩ := mem_ready.1 hi
    have hol : l[i]? = some o := by simpa using ho
    have hil : i < l.length := (List.getElem?_eq_some_iff.1 hol).1
    have his : i < listed.size := by rw [inv.size]; exact hil
    have hli : listed[i] = false := by simp [his] at h0; exact h0
    obtain ⟨hsz, _, hne⟩ := relB_spec hB hol
    have hstep := hS.get hol
    rw [Nat.zero_add] at hstep
    have hgot : ∀ j, depF l l.length i j = true → R j (valOf l a j) w := by
      intro j hj
      have hd : listed.getD j false = true := depF_done (done := fun j => listed.getD j false = true) inv.closed l.length i j (fun p hp e he hb => by
        rw [hol] at hp; cases hp; exact hdeps e he hb) hj
      have hjl : j < l.length := by
        rcases Nat.lt_or_ge j l.length with h1 | h1
        · exact h1
        · exfalso; rw [← inv.size] at h1; simp [Array.getElem?_eq_none h1] at hd
      exact inv.got j hjl hd
    have hlate : ∀ t, lateB l i t = true → a.tmps[t]?.getD undef = a0.tmps[t]?.getD undef := by
      intro t ht
      refine inv.keep t fun j hj hd => ?_
      have hlf : listed.getD i false = false := by simp [his, hli]
      rcases lateB_spec ht hj hd with h1 | h1
      · rw [h1]; exact hlf
      · rcases Bool.eq_false_or_eq_true (listed.getD j false) with h2 | h2
        · exfalso
          have := depF_done (done := fun j => listed.getD j false = true) inv.closed l.length j i (fun p hp e he hb => inv.closed j p hp h2 e he hb) h1
          rw [hlf] at this; cases this
        · exact h2
    have h := hstep a w inv.le hlate hgot (wpAny P .any l.toArray Q fuel (listed.setIfInBounds i true)) (fun v w' hle hR => by
      apply ih
      · have := count_set (l := listed.toList) (i := i) (by simp [his, hli])
        rw [Array.toList_setIfInBounds]; omega
      · refine ⟨by simp [inv.size], htrans _ _ _ inv.le hle, by rw [defers_put, inv.defers], by rw [size_put, inv.tsize], fun t ht => ?_, fun j oj hj hl e he hb => ?_, fun j hj hl => ?_⟩
        · rw [getD_put_ne, inv.keep t]
          · intro j hj hd
            have := ht j hj hd
            by_cases hij : i = j
            · subst hij; exact absurd this (by simp [his])
            · rw [getD_set_ne false hij] at this; exact this
          · intro e
            have := ht i hil (by unfold dstOf; rw [hol]; exact e)
            exact absurd this (by simp [his])
        · by_cases hij : i = j
          · subst hij
            rw [hol] at hj; cases hj
            exact getD_set_true (hdeps e he hb)
          · rw [getD_set_ne false hij] at hl
            exact getD_set_true (inv.closed j oj hj hl e he hb)
        · by_cases hij : i = j
          · subst hij
            unfold valOf dstOf
            rw [hol]
            cases hd : o.dst with
            | none => simp only [Option.bind_some, hd] at hR ⊢; exact hR
            | some t =>
              simp only [Option.bind_some, hd] at hR ⊢
              rw [getD_put_same (by rw [inv.tsize]; exact hsz t hd)]; exact hR
          · rw [getD_set_ne false hij] at hl
            have h1 := hmono _ _ _ _ hle (inv.got j hj hl)
            have : valOf l (a.put o.dst v) j = valOf l a j := by
              unfold valOf
              cases hd : dstOf l j with
              | none => rfl
              | some t =>
                dsimp only
                rw [getD_put_ne]
                intro e
                unfold dstOf at hd
                rw [List.getElem?_eq_getElem hj] at hd
                exact hne j l[j] t (List.getElem?_eq_getElem hj) hij e (by simpa using hd)
            rw [this]; exact h1)
    unfold wpOp
    rw [ho]
    dsimp only
    split at h
    · rename_i hw; rw [if_pos hw]; exact .inl h
    · rename_i hw; rw [if_neg hw]; exact h

/-- EACH OPERATION ONCE. -/
theorem wp_region_rel {id : Nat} {a : Act} {w : World} {l : List Oper} (hm : P.follows .mixedOrders = true) (Le : World → World → Prop) (R : Nat → Value → World → Prop) (hB : relB l a.tmps.size = true)
    (hdrew : Le w w.drew) (htrans : ∀ a b c, Le a b → Le b c → Le a c) (hmono : ∀ i v w1 w2, Le w1 w2 → R i v w1 → R i v w2)
    (hS : RelSteps (RelStep P Q l a w Le R) 0 l)
    (hend : ∀ a' w', Le w w' → a'.defers = a.defers → a'.tmps.size = a.tmps.size → (∀ t, isDst l t = false → a'.tmps[t]?.getD undef = a.tmps[t]?.getD undef) → (∀ j, j < l.length → R j (valOf l a' j) w') → Q .normal a' w') : (Code.region id l.toArray true).wp P Q a w := by
  refine wp_region_any hm ?_
  have := wpAny_rel (P := P) (Q := Q) hB htrans hmono hS hend l.length (Array.replicate l.length false) a w.drew (by simp) ⟨by simp, hdrew, rfl, rfl, fun _ _ => rfl, fun j oj hj hl => by
    exfalso
    have hjl := (List.getElem?_eq_some_iff.1 hj).1
    simp [hjl] at hl, fun j hj hl => by exfalso; simp [hj] at hl⟩
  simpa using this
end

/-- The frame behind a region: each operation's slot has its value. -/
def putAll (l : List Oper) (f : Tmp → Value) (T : Array Value) : Array Value := l.foldl (fun T o => match o.dst with | some t => T.setIfInBounds t (f t) | none => T) T
theorem putAll_size (f : Tmp → Value) : ∀ (l : List Oper) (T : Array Value), (putAll l f T).size = T.size
  | [], _ => rfl
  | o :: l, T => by
    have h := putAll_size f l
    unfold putAll at *
    rw [List.foldl_cons, h]
    cases o.dst <;> simp
theorem putAll_get (f : Tmp → Value) : ∀ (l : List Oper) (T : Array Value) (t : Tmp), t < T.size → (putAll l f T)[t]?.getD undef = if isDst l t = true then f t else T[t]?.getD undef
  | [], _, _, _ => rfl
  | o :: l, T, t, ht => by
    have h := putAll_get f l
    have e : isDst (o :: l) t = (o.dst == some t || isDst l t) := rfl
    rw [e]
    unfold putAll at *
    rw [List.foldl_cons]
    cases hd : o.dst with
    | none => rw [h _ t ht]; simp
    | some d =>
      rw [h _ t (by simpa using ht)]
      by_cases hdt : d = t
      · subst hdt
        simp [ht]
      · have : (some d == some t) = false := by simp [hdt]
        rw [this, Bool.false_or, Array.getElem?_setIfInBounds_ne hdt]
theorem frame_putAll {l : List Oper} {a a' : Act} (hd : a'.defers = a.defers) (hs : a'.tmps.size = a.tmps.size) (hk : ∀ t, isDst l t = false → a'.tmps[t]?.getD undef = a.tmps[t]?.getD undef) : a' = ⟨putAll l (fun t => a'.tmps[t]?.getD undef) a.tmps, a.defers⟩ := by
  obtain ⟨T, D⟩ := a'
  dsimp only at hd hs hk ⊢
  subst hd
  congr 1
  apply Array.ext
  · rw [putAll_size, hs]
  · intro i h1 h2
    have h := putAll_get (fun t => T[t]?.getD undef) l a.tmps i (by rw [← hs]; exact h1)
    have e1 : (putAll l (fun t => T[t]?.getD undef) a.tmps)[i] = (putAll l (fun t => T[t]?.getD undef) a.tmps)[i]?.getD undef := by simp [h2]
    have e2 : T[i] = T[i]?.getD undef := by simp [h1]
    rw [e1, e2, h]
    rcases Bool.eq_false_or_eq_true (isDst l i) with hb | hb
    · rw [if_pos hb]
    · rw [if_neg (by simp [hb])]; exact hk i hb

section
variable {P : Program} {Q : Exit → Act → World → Prop}
/-- EACH OPERATION ONCE; the frame behind it written out. -/
theorem wp_region_put {id : Nat} {a : Act} {w : World} {l : List Oper} (hm : P.follows .mixedOrders = true) (Le : World → World → Prop) (R : Nat → Value → World → Prop) (hB : relB l a.tmps.size = true)
    (hdrew : Le w w.drew) (htrans : ∀ a b c, Le a b → Le b c → Le a c) (hmono : ∀ i v w1 w2, Le w1 w2 → R i v w1 → R i v w2)
    (hS : RelSteps (RelStep P Q l a w Le R) 0 l)
    (hend : ∀ (f : Tmp → Value) (w' : World), Le w w' → (∀ j t, dstOf l j = some t → R j (f t) w') → (∀ j, j < l.length → dstOf l j = none → R j undef w') → Q .normal ⟨putAll l f a.tmps, a.defers⟩ w') : (Code.region id l.toArray true).wp P Q a w := by
  refine wp_region_rel hm Le R hB hdrew htrans hmono hS fun a' w' hle hd hs hk hR => ?_
  rw [frame_putAll hd hs hk]
  refine hend _ w' hle (fun j t hj => ?_) (fun j hj hn => ?_)
  · have hjl : j < l.length := by
      rcases Nat.lt_or_ge j l.length with h | h
      · exact h
      · exfalso; unfold dstOf at hj; rw [List.getElem?_eq_none h] at hj; cases hj
    have := hR j hjl
    unfold valOf at this; rw [hj] at this; exact this
  · have := hR j hj
    unfold valOf at this; rw [hn] at this; exact this
end

theorem yielded_of {l : List Oper} {tm : Array Value} {j : Nat} {t : Tmp} {x : Bool} (hj : dstOf l j = some t) (ht : tm[t]?.getD undef = .bool x) : yielded l.toArray tm j = some x := by
  unfold dstOf at hj
  unfold yielded
  cases ho : l[j]? with
  | none => rw [ho] at hj; cases hj
  | some o =>
    rw [ho] at hj
    simp only [Option.bind_some] at hj
    cases hv : tm[t]? with
    | none => rw [hv] at ht; cases ht
    | some u => rw [hv] at ht; simp at ht; subst ht; simp [ho, hj, hv]
theorem wanted_of {l : List Oper} {o : Oper} {tm : Array Value} {j : Nat} {t : Tmp} {x : Bool} (hg : o.guard = some (j, x)) (hj : dstOf l j = some t) (ht : tm[t]?.getD undef = .bool x) : Region.wanted o (yielded l.toArray tm) = true := by
  unfold Region.wanted; rw [hg]; dsimp only; rw [yielded_of hj ht]; simp
theorem unwanted_of {l : List Oper} {o : Oper} {tm : Array Value} {j : Nat} {t : Tmp} {x : Bool} (hg : o.guard = some (j, !x)) (hj : dstOf l j = some t) (ht : tm[t]?.getD undef = .bool x) : ¬ Region.wanted o (yielded l.toArray tm) = true := by
  unfold Region.wanted; rw [hg]; dsimp only; rw [yielded_of hj ht]; cases x <;> simp
theorem ite_yes {c p q : Prop} [Decidable c] (hc : c) (h : p) : if c then p else q := by rw [if_pos hc]; exact h
theorem ite_no {c p q : Prop} [Decidable c] (hc : ¬ c) (h : q) : if c then p else q := by rw [if_neg hc]; exact h

end Go.Proofs.Ytnlpohcnlmdocaa
