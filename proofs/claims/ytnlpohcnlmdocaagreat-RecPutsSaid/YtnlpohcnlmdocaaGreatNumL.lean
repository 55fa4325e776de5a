/- Numbers and texts as bytes, and how they are read: plain lists; nothing of the program stands here. -/
namespace Go.Proofs.YtnlpohcnlmdocaaGreat
set_option linter.unusedSimpArgs false
set_option linter.unusedVariables false

/-- A number as n bytes, the greatest first. -/
def numL : Nat → Nat → List UInt8
  | 0, _ => []
  | n + 1, x => numL n (x / 256) ++ [UInt8.ofNat (x % 256)]
theorem numL_len : ∀ n x, (numL n x).length = n
  | 0, _ => rfl
  | n + 1, x => by simp [numL, numL_len n]
theorem numL_head : ∀ n x, numL (n + 1) x = UInt8.ofNat (x / 256 ^ n % 256) :: numL n x
  | 0, x => by simp [numL]
  | n + 1, x => by
    rw [numL, numL_head n (x / 256), numL, List.cons_append, Nat.div_div_eq_div_mul, ← Nat.pow_succ']
/-- The number that bytes are. -/
def getN (l : List UInt8) : Nat := l.foldl (fun x b => x * 256 + b.toNat) 0
theorem getN_snoc (l : List UInt8) (b : UInt8) : getN (l ++ [b]) = getN l * 256 + b.toNat := by simp [getN]
theorem getN_lt : ∀ n (l : List UInt8), l.length = n → getN l < 256 ^ n := by
  intro n
  induction n with
  | zero => intro l h; rw [List.length_eq_zero_iff.mp h]; simp [getN]
  | succ n ih =>
    intro l h
    rcases List.eq_nil_or_concat l with rfl | ⟨l', b, rfl⟩
    · simp at h
    · rw [List.concat_eq_append] at h ⊢
      rw [getN_snoc]
      have := ih l' (by simpa using h)
      have hb := b.toNat_lt
      rw [Nat.pow_succ]; omega
theorem getN_numL : ∀ n x, x < 256 ^ n → getN (numL n x) = x
  | 0, x, h => by simp at h; subst h; rfl
  | n + 1, x, h => by
    rw [numL, getN_snoc, getN_numL n (x / 256) (by rw [Nat.pow_succ] at h; omega)]
    simp; omega
theorem numL_getN : ∀ n (l : List UInt8), l.length = n → numL n (getN l) = l := by
  intro n
  induction n with
  | zero => intro l h; rw [List.length_eq_zero_iff.mp h]; rfl
  | succ n ih =>
    intro l h
    rcases List.eq_nil_or_concat l with rfl | ⟨l', b, rfl⟩
    · simp at h
    · rw [List.concat_eq_append] at h ⊢
      rw [getN_snoc, numL]
      have hb := b.toNat_lt
      have e1 : (getN l' * 256 + b.toNat) / 256 = getN l' := by omega
      have e2 : (getN l' * 256 + b.toNat) % 256 = b.toNat := by omega
      rw [e1, e2, ih l' (by simpa using h)]; simp

/-- Numbers' bytes; a text's; texts'; a list's. -/
def numsL (n : Nat) (l : List Nat) : List UInt8 := (l.map fun x => numL n x).flatten
def textL (t : List UInt8) : List UInt8 := numL 2 t.length ++ t
def textsL (l : List (List UInt8)) : List UInt8 := (l.map textL).flatten
def listL (l : List (List UInt8)) : List UInt8 := numL 1 l.length ++ textsL l
theorem numsL_snoc (n : Nat) (l : List Nat) (x : Nat) : numsL n (l ++ [x]) = numsL n l ++ numL n x := by simp [numsL]
theorem textsL_snoc (l : List (List UInt8)) (t : List UInt8) : textsL (l ++ [t]) = textsL l ++ textL t := by simp [textsL]

/-- What reads bytes: what is left; none: it has failed. -/
abbrev RSt := Option (List UInt8)
def takeR (n : Nat) : RSt → List UInt8 × RSt
  | none => ([], none)
  | some l => if n ≤ l.length then (l.take n, some (l.drop n)) else ([], none)
def numR (n : Nat) (st : RSt) : Nat × RSt := (getN (takeR n st).1, (takeR n st).2)
def textR (most : Nat) (st : RSt) : List UInt8 × RSt :=
  match (numR 2 st).2 with
  | none => ([], none)
  | some l => if most < (numR 2 st).1 then ([], none) else takeR (numR 2 st).1 (some l)
def textsR (most : Nat) : Nat → RSt → List (List UInt8) × RSt
  | 0, st => ([], st)
  | k + 1, st => ((textsR most k st).1 ++ [(textR most (textsR most k st).2).1], (textR most (textsR most k st).2).2)
def listR (many most : Nat) (st : RSt) : List (List UInt8) × RSt :=
  match (numR 1 st).2 with
  | none => ([], none)
  | some l => if many < (numR 1 st).1 then ([], none) else
    match (textsR most (numR 1 st).1 (some l)).2 with
    | none => ([], none)
    | some r => ((textsR most (numR 1 st).1 (some l)).1, some r)

theorem takeR_none (n : Nat) : takeR n none = ([], none) := rfl
theorem numR_none (n : Nat) : numR n none = (0, none) := rfl
theorem textR_none (m : Nat) : textR m none = ([], none) := rfl
theorem listR_none (k m : Nat) : listR k m none = ([], none) := rfl
theorem textsR_none (m : Nat) : ∀ k, (textsR m k none).2 = none
  | 0 => rfl
  | k + 1 => by rw [textsR, textsR_none m k]; rfl
theorem takeR_len (n : Nat) (st : RSt) : (takeR n st).1.length ≤ n := by
  cases st with
  | none => simp [takeR]
  | some l => unfold takeR; dsimp only; split <;> simp; omega
theorem numR_lt {n : Nat} {st : RSt} : (numR n st).1 < 256 ^ n := by
  have h := getN_lt (takeR n st).1.length (takeR n st).1 rfl
  exact Nat.lt_of_lt_of_le h (Nat.pow_le_pow_right (by omega) (takeR_len n st))
theorem textR_len (m : Nat) (st : RSt) : (textR m st).1.length ≤ m := by
  unfold textR
  split
  · exact Nat.zero_le _
  · split
    · exact Nat.zero_le _
    · exact Nat.le_trans (takeR_len _ _) (by omega)
theorem textsR_len (m : Nat) : ∀ k st, (textsR m k st).1.length = k
  | 0, _ => rfl
  | k + 1, st => by rw [textsR]; simp [textsR_len m k]
theorem textsR_all (m : Nat) : ∀ k st, ∀ t ∈ (textsR m k st).1, t.length ≤ m
  | 0, _ => by simp [textsR]
  | k + 1, st => by
    rw [textsR]; intro t ht
    rcases List.mem_append.mp ht with h | h
    · exact textsR_all m k st t h
    · rw [List.mem_singleton] at h; rw [h]; exact textR_len _ _

/-- What was read stood there. -/
theorem takeR_some {n : Nat} {st : RSt} {t r : List UInt8} (h : takeR n st = (t, some r)) : st = some (t ++ r) ∧ t.length = n := by
  cases st with
  | none => cases h
  | some l =>
    unfold takeR at h
    dsimp only at h
    split at h
    · rename_i hn
      obtain ⟨h1, h2⟩ := Prod.mk.inj h
      cases h2
      subst h1
      exact ⟨by rw [List.take_append_drop], by simp; omega⟩
    · cases h
theorem numR_some {n : Nat} {st : RSt} {x : Nat} {r : List UInt8} (h : numR n st = (x, some r)) : st = some (numL n x ++ r) := by
  obtain ⟨h1, h2⟩ := Prod.mk.inj h
  have := takeR_some (n := n) (st := st) (t := (takeR n st).1) (r := r) (by rw [← h2])
  rw [← h1, numL_getN n _ this.2]; exact this.1
theorem textR_some {m : Nat} {st : RSt} {t r : List UInt8} (h : textR m st = (t, some r)) : st = some (textL t ++ r) ∧ t.length ≤ m := by
  unfold textR at h
  cases hn : (numR 2 st).2 with
  | none => rw [hn] at h; cases h
  | some l =>
    rw [hn] at h
    dsimp only at h
    split at h
    · cases h
    · rename_i hm
      have h1 := numR_some (n := 2) (st := st) (x := (numR 2 st).1) (r := l) (by rw [← hn])
      have h2 := takeR_some h
      cases h2.1
      refine ⟨?_, by omega⟩
      rw [h1, textL, h2.2, List.append_assoc]
theorem textsR_some {m : Nat} : ∀ {k : Nat} {st : RSt} {ts : List (List UInt8)} {r : List UInt8}, textsR m k st = (ts, some r) → st = some (textsL ts ++ r)
  | 0, st, ts, r, h => by
    obtain ⟨h1, h2⟩ := Prod.mk.inj h
    subst h1 h2; rfl
  | k + 1, st, ts, r, h => by
    rw [textsR] at h
    obtain ⟨h1, h2⟩ := Prod.mk.inj h
    have ht := textR_some (m := m) (st := (textsR m k st).2) (t := (textR m (textsR m k st).2).1) (r := r) (by rw [← h2])
    have hk := textsR_some (m := m) (k := k) (st := st) (ts := (textsR m k st).1) (by rw [← ht.1])
    rw [hk, ← h1, textsL_snoc, List.append_assoc]
theorem listR_some {k m : Nat} {st : RSt} {ts : List (List UInt8)} {r : List UInt8} (h : listR k m st = (ts, some r)) : st = some (listL ts ++ r) ∧ ts.length ≤ k := by
  unfold listR at h
  cases hn : (numR 1 st).2 with
  | none => rw [hn] at h; cases h
  | some l =>
    rw [hn] at h
    dsimp only at h
    split at h
    · cases h
    · rename_i hm
      cases hr : (textsR m (numR 1 st).1 (some l)).2 with
      | none => rw [hr] at h; cases h
      | some r' =>
        rw [hr] at h
        obtain ⟨h1, h2⟩ := Prod.mk.inj h
        cases h2
        have g1 := numR_some (n := 1) (st := st) (x := (numR 1 st).1) (r := l) (by rw [← hn])
        have g2 := textsR_some (m := m) (k := (numR 1 st).1) (st := some l) (ts := ts) (r := r) (by rw [← h1, ← hr])
        cases g2
        have g3 : ts.length = (numR 1 st).1 := by rw [← h1, textsR_len]
        rw [listL, g3, List.append_assoc]
        exact ⟨g1, by omega⟩

/-- What stands there is read. -/
theorem takeR_app (t r : List UInt8) : takeR t.length (some (t ++ r)) = (t, some r) := by
  unfold takeR; dsimp only
  rw [if_pos (by simp), List.take_left, List.drop_left]
theorem numR_app {n x : Nat} (r : List UInt8) (h : x < 256 ^ n) : numR n (some (numL n x ++ r)) = (x, some r) := by
  have := takeR_app (numL n x) r
  rw [numL_len] at this
  unfold numR; rw [this, getN_numL n x h]
theorem textR_app {m : Nat} (t r : List UInt8) (h : t.length ≤ m) (h2 : t.length < 65536) : textR m (some (textL t ++ r)) = (t, some r) := by
  have := numR_app (n := 2) (x := t.length) (t ++ r) h2
  unfold textR textL
  rw [List.append_assoc, this]
  dsimp only
  rw [if_neg (by omega), takeR_app]
theorem textsR_app {m : Nat} (hm : m < 65536) : ∀ (ts : List (List UInt8)) (r : List UInt8), (∀ t ∈ ts, t.length ≤ m) → textsR m ts.length (some (textsL ts ++ r)) = (ts, some r) := by
  intro ts
  induction h : ts.length generalizing ts with
  | zero => intro r _; rw [List.length_eq_zero_iff.mp h]; rfl
  | succ n ih =>
    intro r ha
    rcases List.eq_nil_or_concat ts with rfl | ⟨l', b, rfl⟩
    · simp at h
    · rw [List.concat_eq_append] at h ha ⊢
      have hl : l'.length = n := by simpa using h
      rw [textsL_snoc, List.append_assoc, textsR, ih l' hl (textL b ++ r) (fun t ht => ha t (by simp [ht])), textR_app b r (ha b (by simp)) (by have := ha b (by simp); omega)]
theorem listR_app {k m : Nat} (hm : m < 65536) (hk : k < 256) (ts : List (List UInt8)) (r : List UInt8) (hl : ts.length ≤ k) (ha : ∀ t ∈ ts, t.length ≤ m) : listR k m (some (listL ts ++ r)) = (ts, some r) := by
  have := numR_app (n := 1) (x := ts.length) (textsL ts ++ r) (by omega)
  unfold listR listL
  rw [List.append_assoc, this]
  dsimp only
  rw [if_neg (by omega), textsR_app hm ts r ha]

end Go.Proofs.YtnlpohcnlmdocaaGreat
