/- Records' bytes are read back, and only they: plain lists. -/
import Derived.Test.YtnlpohcnlmdocaaGreatGetW
namespace Go.Proofs.YtnlpohcnlmdocaaGreat
open Go.Shelf Go.RowKit
set_option linter.unusedVariables false
set_option linter.unusedSimpArgs false

theorem pair_snd {α β : Type} {p : α × β} {b : β} (h : p.2 = b) : p = (p.1, b) := by rw [← h]

theorem opened_inside {u : List UInt8} (h : (openedL u).2 = some []) : insideL (openedL u).1 = u := by
  unfold openedL at h ⊢
  dsimp only at h ⊢
  generalize e1 : numR 1 (some u) = r1 at h ⊢
  generalize e2 : numR 1 r1.2 = r2 at h ⊢
  generalize e3 : numR 1 r2.2 = r3 at h ⊢
  generalize e4 : numR 6 r3.2 = r4 at h ⊢
  generalize e5 : numR 6 r4.2 = r5 at h ⊢
  generalize e6 : numR 6 r5.2 = r6 at h ⊢
  generalize e7 : textR 16 r6.2 = r7 at h ⊢
  generalize e8 : textR 16 r7.2 = r8 at h ⊢
  generalize e9 : textR 200 r8.2 = r9 at h ⊢
  generalize e10 : listR 3 16 r9.2 = r10 at h ⊢
  rw [pair_snd h] at e10
  have f10 := (listR_some e10).1
  rw [pair_snd f10] at e9
  have f9 := (textR_some e9).1
  rw [pair_snd f9] at e8
  have f8 := (textR_some e8).1
  rw [pair_snd f8] at e7
  have f7 := (textR_some e7).1
  rw [pair_snd f7] at e6
  have f6 := numR_some e6
  rw [pair_snd f6] at e5
  have f5 := numR_some e5
  rw [pair_snd f5] at e4
  have f4 := numR_some e4
  rw [pair_snd f4] at e3
  have f3 := numR_some e3
  rw [pair_snd f3] at e2
  have f2 := numR_some e2
  rw [pair_snd f2] at e1
  have f1 := numR_some e1
  have f := Option.some.inj f1
  rw [f]
  unfold insideL
  simp only [Int.toNat_natCast, L_B, numsL, textsL, List.map_cons, List.map_nil, List.flatten_cons, List.flatten_nil, List.append_nil, List.map_map, List.append_assoc]
  have : (r10.1.map (L ∘ B)) = r10.1 := by
    rw [show L ∘ B = id from funext fun l => L_B l, List.map_id]
  rw [this]

theorem inside_opened {m : Msg} (hm : InR m) (h1 : m.topic.size ≤ 16) (h2 : m.tag.size ≤ 16) (h3 : ∀ s ∈ m.keys, s.size ≤ 16) : openedL (insideL m) = (m, some []) := by
  have ek : ((m.keys.map L).map B) = m.keys := by
    rw [List.map_map, show B ∘ L = id from funext fun l => B_L l, List.map_id]
  have e : insideL m = numL 1 m.kind.toNat ++ (numL 1 m.queue.toNat ++ (numL 1 m.retry.toNat ++ (numL 6 m.born.toNat ++ (numL 6 m.due.toNat ++ (numL 6 m.ref.toNat ++ (textL (L m.topic) ++ (textL (L m.tag) ++ (textL (L m.body) ++ (listL (m.keys.map L) ++ []))))))))) := by
    unfold insideL
    simp only [numsL, textsL, List.map_cons, List.map_nil, List.flatten_cons, List.flatten_nil, List.append_nil, List.append_assoc]
  have a1 := hm.kind; have a2 := hm.queue; have a3 := hm.retry; have a4 := hm.born; have a5 := hm.due; have a6 := hm.ref; have a7 := hm.body; have a8 := hm.keys
  have p1 : (256 : Nat) ^ 1 = 256 := rfl
  have p6 : (256 : Nat) ^ 6 = 281474976710656 := rfl
  unfold openedL
  rw [e]
  dsimp only
  rw [numR_app (n := 1) _ (by omega)]; dsimp only
  rw [numR_app (n := 1) _ (by omega)]; dsimp only
  rw [numR_app (n := 1) _ (by omega)]; dsimp only
  rw [numR_app (n := 6) _ (by omega)]; dsimp only
  rw [numR_app (n := 6) _ (by omega)]; dsimp only
  rw [numR_app (n := 6) _ (by omega)]; dsimp only
  rw [textR_app (m := 16) _ _ (by rw [L_len]; omega) (by rw [L_len]; omega)]; dsimp only
  rw [textR_app (m := 16) _ _ (by rw [L_len]; omega) (by rw [L_len]; omega)]; dsimp only
  rw [textR_app (m := 200) _ _ (by rw [L_len]; omega) (by rw [L_len]; omega)]; dsimp only
  rw [listR_app (k := 3) (m := 16) (by omega) (by omega) _ _ (by rw [List.length_map]; exact a8) (fun t ht => by
    rw [List.mem_map] at ht; obtain ⟨s, hs, rfl⟩ := ht; rw [L_len]; exact h3 s hs)]
  dsimp only
  rw [B_L, B_L, B_L, ek]
  cases m
  simp only [Int.toNat_of_nonneg a1.1, Int.toNat_of_nonneg a2.1, Int.toNat_of_nonneg a3.1, Int.toNat_of_nonneg a4.1, Int.toNat_of_nonneg a5.1, Int.toNat_of_nonneg a6.1]

theorem right_small {m : Msg} (h : rightM m = true) (hk : m.kind ≠ 0) : m.topic.size ≤ 16 ∧ m.tag.size ≤ 16 ∧ ∀ s ∈ m.keys, s.size ≤ 16 := by
  have car : ∀ {m : Msg}, carriesM m = true → m.topic.size ≤ 16 ∧ m.tag.size ≤ 16 ∧ ∀ s ∈ m.keys, s.size ≤ 16 := fun {m} hc => by
    obtain ⟨c1, c2, c3, c4, c5, c6, c7, c8⟩ := carries_spec hc
    have t1 := topic_len c1
    have t2 := tag_len c4
    rw [L_len] at t1 t2
    exact ⟨t1, t2, fun s hs => by have := key_len (c6 s hs); rw [L_len] at this; exact this⟩
  obtain ⟨hn, h⟩ := right_kinds h
  rcases h with ⟨k, hc, _⟩ | ⟨k, hc⟩ | ⟨k, hc⟩ | ⟨k, hc⟩ | ⟨k, hc⟩
  · exact car hc
  · exact car hc
  · exact car hc
  · rw [hc]; exact ⟨Nat.zero_le _, Nat.zero_le _, fun s hs => by cases hs⟩
  · exact absurd k hk

theorem right_nil (n : Nat) (h : n ≤ 1024) : rightM (nilM n) = true := by
  have hz : (B (noughtsL n)).size = n := by rw [B_size]; simp [noughtsL]
  have h1 : numsM (nilM n) = true := by show allI okN [0, 0, 0] = true; decide
  unfold rightM
  rw [if_pos h1]
  show fillM (nilM n) = true
  unfold fillM
  have h2 : decide ((((nilM n).body.size : Nat) : Int) ≤ 1024) = true := by
    rw [decide_eq_true_eq]; show ((B (noughtsL n)).size : Int) ≤ 1024; rw [hz]; omega
  have h3 : ((nilM n).body.toList == (B (noughtsL (nilM n).body.size)).toList) = true := by
    show ((B (noughtsL n)).toList == (B (noughtsL (B (noughtsL n)).size)).toList) = true
    rw [hz]; simp
  have h4 : sameM (nilM n) (bareM (nilM n)) = true := (sameM_iff _ _).2 rfl
  rw [h2, h3, h4]; rfl
theorem put_nil {n : Nat} (h3 : 3 ≤ n) (h : n ≤ 1024) : putL (nilM n) = some (fillL n) := by
  have hz : (nilM n).body.size = n := by show (B (noughtsL n)).size = n; rw [B_size]; simp [noughtsL]
  unfold putL
  rw [if_pos (right_nil n h), if_pos (show (nilM n).kind = 0 from rfl), hz, if_pos h3]

/-- What Get tells is a record's: these are its bytes. -/
theorem get_sound {l : List UInt8} {n : Nat} {m : Msg} (h : getL l = (0, n, m)) : putL m = some (l.take n) ∧ n ≤ l.length := by
  unfold getL at h
  generalize e1 : takeR 1 (some l) = t1 at h
  generalize e2 : numR 2 t1.2 = a at h
  generalize e3 : takeR (a.1 - 3) a.2 = r at h
  unfold getT at h
  split at h
  · cases h
  rename_i hA
  split at h
  · cases h
  split at h
  · cases h
  rename_i hn
  split at h
  · cases h
  rename_i hst
  obtain ⟨l3, hl3⟩ := Option.ne_none_iff_exists'.1 hst
  rw [pair_snd hl3] at e3
  obtain ⟨f3, z3⟩ := takeR_some e3
  rw [pair_snd f3] at e2
  have f2 := numR_some e2
  rw [pair_snd f2] at e1
  obtain ⟨f1, z1⟩ := takeR_some e1
  have f := Option.some.inj f1
  have hlen : 3 ≤ a.1 := by omega
  have hz : (t1.1 ++ (numL 2 a.1 ++ r.1)).length = a.1 := by rw [List.length_append, List.length_append, numL_len, z1, z3]; omega
  have ht : l.take a.1 = t1.1 ++ (numL 2 a.1 ++ r.1) := by
    rw [f, show t1.1 ++ (numL 2 a.1 ++ (r.1 ++ l3)) = (t1.1 ++ (numL 2 a.1 ++ r.1)) ++ l3 by simp]
    exact List.take_left' hz
  have hle : a.1 ≤ l.length := by
    have := congrArg List.length ht
    rw [hz, List.length_take] at this; omega
  split at h
  · rename_i h90
    split at h
    · rename_i hr
      obtain ⟨_, h2⟩ := Prod.mk.inj h
      obtain ⟨rfl, rfl⟩ := Prod.mk.inj h2
      refine ⟨?_, hle⟩
      rw [put_nil hlen (by
        have : ¬ (1024 < a.1) := fun hh => hn (.inr ⟨h90, hh⟩)
        omega), ht, h90, hr, z3]
      rfl
    · cases h
  · rename_i hh90
    have h165 : t1.1 = [165] := by
      by_cases hx : t1.1 = [165]
      · exact hx
      · exfalso
        apply hA
        refine ⟨fun e => ?_, hx, hh90⟩
        rw [e] at z1; cases z1
    split at h
    · cases h
    · rename_i u hu
      split at h
      · rename_i hok
        obtain ⟨_, h2⟩ := Prod.mk.inj h
        obtain ⟨rfl, rfl⟩ := Prod.mk.inj h2
        refine ⟨?_, hle⟩
        unfold okL at hok
        simp only [Bool.and_eq_true, decide_eq_true_eq, bne_iff_ne] at hok
        obtain ⟨k1, k2, k3⟩ := hok
        have hi := opened_inside k1
        have hs := unseal_some hu
        have hzz := congrArg List.length hs
        rw [z3, sealL_len] at hzz
        unfold putL
        rw [if_pos k3, if_neg k2, hi, ht, h165, hs, show 7 + u.length = a.1 by omega]; rfl
      · cases h

theorem get_put {m : Msg} {p q : List UInt8} (h : putL m = some p) : getL (p ++ q) = (0, p.length, m) := by
  have hr : rightM m = true := by
    unfold putL at h; split at h
    · assumption
    · cases h
  unfold putL at h
  rw [if_pos hr] at h
  have go : ∀ (c : UInt8) (n : Nat) (r : List UInt8), n < 65536 → r.length = n - 3 → getL ((c :: (numL 2 n ++ r)) ++ q) = getT [c] r n ((c :: (numL 2 n ++ r)) ++ q).length (some q) := by
    intro c n r hn hrl
    have e1 : takeR 1 (some ((c :: (numL 2 n ++ r)) ++ q)) = ([c], some (numL 2 n ++ (r ++ q))) := by
      have := takeR_app [c] (numL 2 n ++ (r ++ q))
      simpa using this
    have e2 := numR_app (n := 2) (x := n) (r ++ q) hn
    have e3 := takeR_app r q
    rw [hrl] at e3
    unfold getL
    rw [e1]; dsimp only
    rw [e2]; dsimp only
    rw [e3]
  by_cases hk : m.kind = 0
  · rw [if_pos hk] at h
    split at h
    · rename_i h3
      cases h
      obtain ⟨_, hh⟩ := right_kinds hr
      have hf : fillM m = true := by
        rcases hh with ⟨k, _⟩ | ⟨k, _⟩ | ⟨k, _⟩ | ⟨k, _⟩ | ⟨_, hf⟩
        · omega
        · omega
        · omega
        · omega
        · exact hf
      obtain ⟨g1, g2, g3⟩ := fill_spec hf
      have hnl : (noughtsL (m.body.size - 3)).length = m.body.size - 3 := by simp [noughtsL]
      have := go 90 m.body.size (noughtsL (m.body.size - 3)) (by omega) hnl
      unfold fillL at *
      rw [this, getT_fill (by simp [numL_len, noughtsL]) (by omega) (by omega) (by rw [hnl])]
      have hz := fillL_len h3
      unfold fillL at hz
      rw [hz]
      have : nilM m.body.size = m := by
        rw [g3]; unfold nilM bareM; simp only; rw [← g2]
      rw [this]
    · cases h
  · rw [if_neg hk] at h
    cases h
    have hi := right_in hr hk
    obtain ⟨s1, s2, s3⟩ := right_small hr hk
    have hop := inside_opened hi s1 s2 s3
    have hl := insideL_len hi
    have hsl := sealL_len (insideL m)
    have := go 165 (7 + (insideL m).length) (sealL (insideL m)) (by omega) (by omega)
    rw [this, getT_seal (by simp [numL_len, hsl]) (by omega), unseal_seal]
    have hok : okL (insideL m) = true := by
      unfold okL; rw [hop]; simp [hr]; exact hk
    dsimp only
    rw [if_pos hok, hop]
    simp [numL_len, hsl]; omega

theorem get_err {l : List UInt8} {e : Int} {n : Nat} {m : Msg} (h : getL l = (e, n, m)) (he : e ≠ 0) : n = 0 := by
  unfold getL at h
  unfold getT at h
  repeat' split at h
  all_goals first
    | (obtain ⟨h1, h2⟩ := Prod.mk.inj h; obtain ⟨h3, h4⟩ := Prod.mk.inj h2; first | exact h3.symm | exact absurd h1.symm he)
theorem put_inj {a b : Msg} {p : List UInt8} (ha : putL a = some p) (hb : putL b = some p) : a = b := by
  have h1 := get_put (q := []) ha
  have h2 := get_put (q := []) hb
  rw [h1] at h2
  exact (Prod.mk.inj (Prod.mk.inj h2).2).2

end Go.Proofs.YtnlpohcnlmdocaaGreat
