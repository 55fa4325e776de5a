/- The law RecSame: its walk. -/
import Derived.Test.YtnlpohcnlmdocaaTurned
import Derived.Test.YtnlpohcnlmdocaaGreats
import Derived.Test.YtnlpohcnlmdocaaMsgR
import Derived.Test.YtnlpohcnlmdocaaCopy2
import Derived.Laws.OwnMore
namespace Go.Proofs.Ytnlpohcnlmdocaa
open Go.RowKit Go.Shelf
set_option linter.unusedSimpArgs false
set_option linter.unusedVariables false

theorem strs_app_x (s : ByteArray) : (s ++ ⟨#[120]⟩ : ByteArray) ≠ s := by
  intro e
  have := congrArg ByteArray.size e
  rw [ByteArray.size_append] at this
  have h1 : (⟨#[120]⟩ : ByteArray).size = 1 := rfl
  omega
theorem same_keys {a : Msg} {l : List ByteArray} (h : l ≠ a.keys) : sameM { a with keys := l } a = false := by
  rw [Bool.eq_false_iff]
  intro e
  have := (sameM_iff _ _).1 e
  exact h (congrArg Msg.keys this)
theorem put_same {a b : Msg} {p q : List UInt8} (ha : putL a = some p) (hb : putL b = some q) : ((B p).toList == (B q).toList) = sameM a b := by
  rw [L_of, L_of, L_B, L_B, Bool.eq_iff_iff, beq_iff_eq, sameM_iff]
  constructor
  · intro e; subst e; exact put_inj ha hb
  · intro e; subst e; rw [ha] at hb; exact Option.some.inj hb
theorem get_fillL {n : Nat} (h3 : 3 ≤ n) (h : n ≤ 1024) : getL (fillL n) = (0, n, nilM n) := by
  have := get_put (q := []) (put_nil h3 h)
  rw [List.append_nil, fillL_len h3] at this; exact this
theorem nil_size (n : Nat) : (nilM n).body.size = n := by show (B (noughtsL n)).size = n; rw [B_size]; simp [noughtsL]

set_option maxRecDepth 100000 in
set_option maxHeartbeats 16000000 in
theorem same_walk (a b : Msg) (A A' : Option Addr) (c c' : Nat) (n : Int) (w : World) (hl : Strs w A a.keys) (hl' : Strs w A' b.keys) (hn0 : -9223372036854775808 ≤ n) (hn1 : n ≤ 9223372036854775807) :
    Calls Try.prog 8 #[.agg #[.int .i64 a.kind, .int .i64 a.queue, .int .i64 a.due, .int .i64 a.retry, .int .i64 a.ref, .int .i64 a.born, .string a.topic, .string a.tag, .string a.body, .slice A a.keys.length c], .agg #[.int .i64 b.kind, .int .i64 b.queue, .int .i64 b.due, .int .i64 b.retry, .int .i64 b.ref, .int .i64 b.born, .string b.topic, .string b.tag, .string b.body, .slice A' b.keys.length c'], .int .i64 n] w fun e w' => e = .returned (.bool true) ∧ Below w.heap.size w w' := by
  have HL := Lib.hid hl
  have HL' := Lib.hid hl'
  clear hl hl'
  have ba0 := (Blk.new w 39 #[.int .i64 a.kind, .int .i64 a.queue, .int .i64 a.due, .int .i64 a.retry, .int .i64 a.ref, .int .i64 a.born, .string a.topic, .string a.tag, .string a.body, .slice A a.keys.length c]).later (balloc (o := .cells #[.int .i64 b.kind, .int .i64 b.queue, .int .i64 b.due, .int .i64 b.retry, .int .i64 b.ref, .int .i64 b.born, .string b.topic, .string b.tag, .string b.body, .slice A' b.keys.length c'] 39) (Below.refl _ _))
  have bb0 := Blk.new (w.alloc (.cells #[.int .i64 a.kind, .int .i64 a.queue, .int .i64 a.due, .int .i64 a.retry, .int .i64 a.ref, .int .i64 a.born, .string a.topic, .string a.tag, .string a.body, .slice A a.keys.length c] 39)) 39 #[.int .i64 b.kind, .int .i64 b.queue, .int .i64 b.due, .int .i64 b.retry, .int .i64 b.ref, .int .i64 b.born, .string b.topic, .string b.tag, .string b.body, .slice A' b.keys.length c']
  have HB0 : Below w.heap.size w ((w.alloc (.cells #[.int .i64 a.kind, .int .i64 a.queue, .int .i64 a.due, .int .i64 a.retry, .int .i64 a.ref, .int .i64 a.born, .string a.topic, .string a.tag, .string a.body, .slice A a.keys.length c] 39)).alloc (.cells #[.int .i64 b.kind, .int .i64 b.queue, .int .i64 b.due, .int .i64 b.retry, .int .i64 b.ref, .int .i64 b.born, .string b.topic, .string b.tag, .string b.body, .slice A' b.keys.length c'] 39)) := balloc (balloc (Below.refl _ _))
  have hs1 : (w.alloc (.cells #[.int .i64 a.kind, .int .i64 a.queue, .int .i64 a.due, .int .i64 a.retry, .int .i64 a.ref, .int .i64 a.born, .string a.topic, .string a.tag, .string a.body, .slice A a.keys.length c] 39)).heap.size = w.heap.size + 1 := by simp
  rw [hs1] at bb0
  clear hs1
  go_enter Try.func8, Try.ntmps8
  go_wp2_with fail
  refine (awake6_any _).mono ?_
  rintro e w1 ⟨rfl, hb1⟩
  have ba1 := ba0.later hb1
  have bb1 := bb0.later hb1
  have HB1 := bstep HB0 hb1
  clear ba0 bb0 HB0 hb1
  have ca1 := ba1.cell
  have cb1 := bb1.cell
  go_wp2_with fail
  have bg := Blk.new w1 39 #[.int .i64 a.kind, .int .i64 a.queue, .int .i64 a.due, .int .i64 a.retry, .int .i64 a.ref, .int .i64 a.born, .string a.topic, .string a.tag, .string a.body, .slice A a.keys.length c, .int .i64 b.kind, .int .i64 b.queue, .int .i64 b.due, .int .i64 b.retry, .int .i64 b.ref, .int .i64 b.born, .string b.topic, .string b.tag, .string b.body, .slice A' b.keys.length c']
  have HBg := balloc (o := .cells #[.int .i64 a.kind, .int .i64 a.queue, .int .i64 a.due, .int .i64 a.retry, .int .i64 a.ref, .int .i64 a.born, .string a.topic, .string a.tag, .string a.body, .slice A a.keys.length c, .int .i64 b.kind, .int .i64 b.queue, .int .i64 b.due, .int .i64 b.retry, .int .i64 b.ref, .int .i64 b.born, .string b.topic, .string b.tag, .string b.body, .slice A' b.keys.length c'] 39) HB1
  have hGs := greats_any w1.heap.size 2 [(a, A, c), (b, A', c')] (w1.alloc (.cells #[.int .i64 a.kind, .int .i64 a.queue, .int .i64 a.due, .int .i64 a.retry, .int .i64 a.ref, .int .i64 a.born, .string a.topic, .string a.tag, .string a.body, .slice A a.keys.length c, .int .i64 b.kind, .int .i64 b.queue, .int .i64 b.due, .int .i64 b.retry, .int .i64 b.ref, .int .i64 b.born, .string b.topic, .string b.tag, .string b.body, .slice A' b.keys.length c'] 39)) (by
    intro k hk
    match k, hk with
    | 0, _ =>
      refine ⟨fun i hi => ?_, HL.out.below HBg⟩
      rw [bg.cell]
      match i, hi with
      | 0, _ | 1, _ | 2, _ | 3, _ | 4, _ | 5, _ | 6, _ | 7, _ | 8, _ | 9, _ => rfl
    | 1, _ =>
      refine ⟨fun i hi => ?_, HL'.out.below HBg⟩
      rw [bg.cell]
      match i, hi with
      | 0, _ | 1, _ | 2, _ | 3, _ | 4, _ | 5, _ | 6, _ | 7, _ | 8, _ | 9, _ => rfl) (by simp) (by simp)
  refine (show Calls _ _ #[.slice _ 2 2] _ _ from hGs).mono ?_
  rintro e w2 ⟨rfl, hb2⟩
  have ba2 := (ba1.later (balloc (Below.refl _ _))).later hb2
  have bb2 := (bb1.later (balloc (Below.refl _ _))).later hb2
  have HB2 := bstep HBg hb2
  clear ba1 bb1 HB1 HBg hb2 ca1 cb1 bg hGs
  rcases Bool.eq_false_or_eq_true (greats [(a, A, c), (b, A', c')]) with hG | hG
  · rw [hG]
    go_wp2
    go_ret
    exact ⟨rfl, HB2⟩
  have hGG : greatM a = false ∧ greatM b = false := by
    unfold greats at hG
    simpa using hG
  rw [hG]
  obtain ⟨g1a, g2a, g3a, g4a, g5a⟩ := great_spec hGG.1
  obtain ⟨g1b, g2b, g3b, g4b, g5b⟩ := great_spec hGG.2
  clear hG hGG
  go_wp2_with fail
  refine (new_any w2).mono ?_
  rintro e w3 ⟨rfl, hT, hb3⟩
  have ba3 := ba2.later hb3
  have bb3 := bb2.later hb3
  have HB3 := bstep HB2 hb3
  have HT := Lib.hid hT
  clear ba2 bb2 HB2 hb3 hT
  obtain ⟨tb, htb⟩ : ∃ tb, w2.heap.size = tb := ⟨_, rfl⟩
  rw [htb] at HT ⊢
  clear htb
  have ca3 := ba3.cell
  have cb3 := bb3.cell
  go_wp2_with fail
  refine (rSame_any a b A A' c c' w3 (HL.out.below HB3) (HL'.out.below HB3) (by omega) (by omega)).mono ?_
  rintro e w4 ⟨rfl, hb4⟩
  have ba4 := ba3.later hb4
  have bb4 := bb3.later hb4
  have HB4 := bstep HB3 hb4
  have HT4 := Lib.hid (HT.out.below hb4)
  clear ba3 bb3 HB3 hb4 ca3 cb3
  have ca4 := ba4.cell
  have cb4 := bb4.cell
  go_wp2_with fail
  refine (put_any' a A c tb w4 (HL.out.below HB4) (by omega) (fun s hs => by have := g5a s hs; omega) HT4.out).mono ?_
  rintro e w5 ⟨rfl, hb5⟩
  have ba5 := ba4.later hb5
  have bb5 := bb4.later hb5
  have HB5 := bstep HB4 hb5
  have HT5 := Lib.hid (HT4.out.below hb5)
  clear ba4 bb4 HB4 hb5 ca4 cb4
  have ca5 := ba5.cell
  have cb5 := bb5.cell
  obtain ⟨sa, ea, hva⟩ : ∃ sa ea, putV a = .tuple #[.string sa, .int .i64 ea] := ⟨_, _, rfl⟩
  rw [hva]
  have HVa := Lib.hid hva
  clear hva
  go_wp2_with fail
  refine (put_any' b A' c' tb w5 (HL'.out.below HB5) (by omega) (fun s hs => by have := g5b s hs; omega) HT5.out).mono ?_
  rintro e w6 ⟨rfl, hb6⟩
  have ba6 := ba5.later hb6
  have bb6 := bb5.later hb6
  have HB6 := bstep HB5 hb6
  have HT6 := Lib.hid (HT5.out.below hb6)
  clear ba5 bb5 HB5 hb6 ca5 cb5
  have ca6 := ba6.cell
  have cb6 := bb6.cell
  obtain ⟨sb, eb, hvb⟩ : ∃ sb eb, putV b = .tuple #[.string sb, .int .i64 eb] := ⟨_, _, rfl⟩
  rw [hvb]
  have HVb := Lib.hid hvb
  clear hvb
  have HSa := Lib.hid (same_any a b A A' c c' w6 (HL.out.below HB6) (HL'.out.below HB6) (by omega) (by omega))
  have hways : ((ea == 0) = false) ∨ ((ea == 0) = true ∧ (eb == 0) = false) ∨ ((ea == 0) = true ∧ (eb == 0) = true ∧ (sa.toList == sb.toList) = sameM a b) := by
    have h1 := HVa.out
    have h2 := HVb.out
    unfold putV at h1 h2
    injection h1 with h1; injection h1 with h1; injection h1 with h1 h1'; injection h1 with h1; injection h1' with h1' _; injection h1' with _ h1'
    injection h2 with h2; injection h2 with h2; injection h2 with h2 h2'; injection h2 with h2; injection h2' with h2' _; injection h2' with _ h2'
    cases hPa : putL a with
    | none => rw [hPa] at h1'; simp at h1'; exact .inl (by rw [← h1']; rfl)
    | some p =>
      rw [hPa] at h1 h1'
      simp at h1 h1'
      cases hPb : putL b with
      | none => rw [hPb] at h2'; simp at h2'; exact .inr (.inl ⟨by rw [← h1']; rfl, by rw [← h2']; rfl⟩)
      | some q =>
        rw [hPb] at h2 h2'
        simp at h2 h2'
        exact .inr (.inr ⟨by rw [← h1']; rfl, by rw [← h2']; rfl, by rw [← h1, ← h2]; exact put_same hPa hPb⟩)
  obtain ⟨sm, hsm⟩ : ∃ sm, sameM a b = sm := ⟨_, rfl⟩
  rw [hsm] at HSa hways ⊢
  have hsx : (sm != sm) = false := by cases sm <;> rfl
  clear hsm HVa HVb
  rcases hways with e1 | ⟨e1, e2⟩ | ⟨e1, e2, e3⟩
  · go_wp2_with (go_at_call 31; refine HSa.out.mono ?_; rintro e w8 ⟨rfl, hb8⟩; have HB8 := bstep HB6 hb8; have HT8 := Lib.hid (HT6.out.below hb8); have ba8 := ba6.later hb8; have HLa8 := Lib.hid (HL.out.below HB8); have ca8 := ba8.cell)
    have hcp := copy_any a A c w8 HLa8.out (by omega)
    go_wp2_with fail
    refine hcp.mono ?_
    rintro e w9 ⟨⟨v, rfl, A2, c2, rfl, hcc, hrow⟩, hb9⟩
    have HB9 := bstep HB8 hb9
    have b9 := ba8.later hb9
    have HT9 := Lib.hid (HT8.out.below hb9)
    have HLa9 := Lib.hid (HLa8.out.below hb9)
    clear hcp
    by_cases hk0 : a.keys = []
    · have hkz : a.keys.length = 0 := by rw [hk0]; rfl
      have bm := Blk.new w9 39 #[.int .i64 a.kind, .int .i64 a.queue, .int .i64 a.due, .int .i64 a.retry, .int .i64 a.ref, .int .i64 a.born, .string a.topic, .string a.tag, .string a.body, .slice A2 a.keys.length c2]
      have d0 : decide ((0 : Int) < (a.keys.length : Int)) = false := decide_eq_false (by omega)
      have d0' : decide (0 < a.keys.length) = false := decide_eq_false (by omega)
      have d0'' : ¬ 0 < a.keys.length := by omega
      have cm := bm.cell
      have HB10 := balloc (o := .cells #[.int .i64 a.kind, .int .i64 a.queue, .int .i64 a.due, .int .i64 a.retry, .int .i64 a.ref, .int .i64 a.born, .string a.topic, .string a.tag, .string a.body, .slice A2 a.keys.length c2] 39) HB9
      have HT10 := Lib.hid (HT9.out.below (balloc (o := .cells #[.int .i64 a.kind, .int .i64 a.queue, .int .i64 a.due, .int .i64 a.retry, .int .i64 a.ref, .int .i64 a.born, .string a.topic, .string a.tag, .string a.body, .slice A2 a.keys.length c2] 39) (Below.refl _ _)))
      clear hk0 hkz
      rcases (show n < 3 ∨ 3 ≤ n by omega) with hn3 | hn3
      · have d3 : decide ((3 : Int) ≤ n) = false := decide_eq_false (by omega)
        go_wp2_with fail
        refine (fill_no n _ (.inl hn3)).mono ?_
        rintro e y1 ⟨rfl, hy1⟩
        have HY1 := bstep HB10 hy1
        go_wp2
        go_ret
        exact ⟨rfl, HY1⟩
      rcases (show 1024 < n ∨ n ≤ 1024 by omega) with hm | hm
      · have d3 : decide ((3 : Int) ≤ n) = true := decide_eq_true (by omega)
        have d4 : decide (n ≤ (1024 : Int)) = false := decide_eq_false (by omega)
        go_wp2_with fail
        refine (fill_no n _ (.inr hm)).mono ?_
        rintro e y1 ⟨rfl, hy1⟩
        have HY1 := bstep HB10 hy1
        go_wp2
        go_ret
        exact ⟨rfl, HY1⟩
      obtain ⟨k, rfl⟩ := Int.eq_ofNat_of_zero_le (show 0 ≤ n by omega)
      have hk3 : 3 ≤ k := by omega
      have hk4 : k ≤ 1024 := by omega
      have d3 : decide ((3 : Int) ≤ (k : Int)) = true := decide_eq_true hn3
      have d4 : decide ((k : Int) ≤ (1024 : Int)) = true := decide_eq_true hm
      have hfz : (B (fillL k)).size = k := by rw [B_size, fillL_len hk3]
      have HFZ := Lib.hid hfz
      obtain ⟨fs, hfs⟩ : ∃ fs, B (fillL k) = fs := ⟨_, rfl⟩
      have hLf : L fs = fillL k := by rw [← hfs]; exact L_B _
      have HLf := Lib.hid hLf
      have hF : ∀ W0, Calls Try.prog 33 #[.int .i64 k] W0 fun e w' => e = .returned (.tuple #[.string fs, .bool true]) ∧ Below W0.heap.size W0 w' := fun W0 => hfs ▸ fill_yes k W0 hk3 hk4
      have HF := Lib.hid hF
      have hfk : fs.size = k := by rw [← hfs]; exact hfz
      have hfe : ((fs.size : Int) == (k : Int)) = true := by rw [hfk]; simp
      have hfl : fs.size ≤ 140737488355328 := by omega
      clear hfz hfs hLf hF hfk
      go_wp2_with fail
      refine (HF.out _).mono ?_
      rintro e y1 ⟨rfl, hy1⟩
      have HY1 := Lib.hid (bstep HB10 hy1)
      have HT1 := Lib.hid (HT10.out.below hy1)
      go_wp2_with fail
      refine (rGet_any tb fs _ hfl HT1.out).mono ?_
      rw [HLf.out, get_fillL hk3 hk4]
      rintro e y2 ⟨A3, c3, rfl, hS3, hy2⟩
      have HY2 := bstep HY1.out hy2
      have hnz := nil_size k
      generalize hbd : (nilM k).body = bd at *
      have hkd : (nilM k).keys.length = 0 := rfl
      have hcel : msgCells (nilM k) A3 c3 = #[.int .i64 0, .int .i64 0, .int .i64 0, .int .i64 0, .int .i64 0, .int .i64 0, .string ⟨#[]⟩, .string ⟨#[]⟩, .string bd, .slice A3 0 c3] := by
        rw [← hbd]; rfl
      dsimp only
      rw [hcel]
      have hbe : ((bd.size : Int) == (k : Int)) = true := by rw [hnz]; simp
      clear hcel hkd hbd hnz hS3
      go_wp2
      go_ret
      exact ⟨rfl, balloc HY2⟩
    · obtain ⟨k0, ks, hks⟩ : ∃ k0 ks, a.keys = k0 :: ks := by
        cases h : a.keys with
        | nil => exact absurd h hk0
        | cons x l => exact ⟨x, l, rfl⟩
      have hkn : a.keys.length = ks.length + 1 := by rw [hks]; rfl
      have d0 : decide ((0 : Int) < (a.keys.length : Int)) = true := decide_eq_true (by omega)
      have d0' : decide (0 < a.keys.length) = true := decide_eq_true (by omega)
      have hi0 : (0 : Int) < (a.keys.length : Int) := by omega
      have hi1 : 0 < a.keys.length := by omega
      obtain ⟨gk, hgk, hgk2⟩ : ∃ gk, A2 = some ⟨gk, 0, none⟩ ∧ w8.heap.size ≤ gk := by
        rcases hrow.2 with ⟨e1, hz⟩ | ⟨g, cap, cur, hv, hbk, _⟩
        · omega
        · injection hv with h1 _ _; exact ⟨g, h1, hbk⟩
      subst hgk
      have hrow10 := hrow.alloc (.cells #[.int .i64 a.kind, .int .i64 a.queue, .int .i64 a.due, .int .i64 a.retry, .int .i64 a.ref, .int .i64 a.born, .string a.topic, .string a.tag, .string a.body, .slice (some ⟨gk, 0, none⟩) a.keys.length c2] 39)
      have ce := hrow10.cellAt 0 (by omega)
      have fz := hrow10.frozenAt 0
      have hst := hrow10.stored 0 (.string (k0 ++ ⟨#[120]⟩))
      have e0 : (a.keys.map Value.string)[0]? = some (.string k0) := by rw [hks]; rfl
      rw [e0] at ce
      have e1 : (a.keys.map Value.string).set 0 (.string (k0 ++ ⟨#[120]⟩)) = (((k0 ++ ⟨#[120]⟩) :: ks).map Value.string) := by rw [hks]; rfl
      rw [e1] at hst
      have hkz : k0.size + 1 ≤ 9223372036854775807 := by
        have := g5a k0 (by rw [hks]; simp)
        omega
      have bm := Blk.new w9 39 #[.int .i64 a.kind, .int .i64 a.queue, .int .i64 a.due, .int .i64 a.retry, .int .i64 a.ref, .int .i64 a.born, .string a.topic, .string a.tag, .string a.body, .slice (some ⟨gk, 0, none⟩) a.keys.length c2]
      have HB10 := balloc (o := .cells #[.int .i64 a.kind, .int .i64 a.queue, .int .i64 a.due, .int .i64 a.retry, .int .i64 a.ref, .int .i64 a.born, .string a.topic, .string a.tag, .string a.body, .slice (some ⟨gk, 0, none⟩) a.keys.length c2] 39) HB9
      have b10 := b9.later (balloc (o := .cells #[.int .i64 a.kind, .int .i64 a.queue, .int .i64 a.due, .int .i64 a.retry, .int .i64 a.ref, .int .i64 a.born, .string a.topic, .string a.tag, .string a.body, .slice (some ⟨gk, 0, none⟩) a.keys.length c2] 39) (Below.refl _ _))
      have HT10 := HT9.out.below (balloc (o := .cells #[.int .i64 a.kind, .int .i64 a.queue, .int .i64 a.due, .int .i64 a.retry, .int .i64 a.ref, .int .i64 a.born, .string a.topic, .string a.tag, .string a.body, .slice (some ⟨gk, 0, none⟩) a.keys.length c2] 39) (Below.refl _ _))
      have HLa10 := HLa9.out.below (balloc (o := .cells #[.int .i64 a.kind, .int .i64 a.queue, .int .i64 a.due, .int .i64 a.retry, .int .i64 a.ref, .int .i64 a.born, .string a.topic, .string a.tag, .string a.body, .slice (some ⟨gk, 0, none⟩) a.keys.length c2] 39) (Below.refl _ _))
      have hgl := (hrow10.lt gk rfl).2
      have hgne : gk ≠ w9.heap.size := by have := (hrow.lt gk rfl).2; omega
      have hlow : w.heap.size ≤ gk := by have := HB8.size; omega
      have hbal : w.heap.size < gk := by have := ba8.lt; omega
      have htl : tb < gk := by have := HT8.out.lt; omega
      have hLam : ∀ (W0 : World), Below gk (w9.alloc (.cells #[.int .i64 a.kind, .int .i64 a.queue, .int .i64 a.due, .int .i64 a.retry, .int .i64 a.ref, .int .i64 a.born, .string a.topic, .string a.tag, .string a.body, .slice (some ⟨gk, 0, none⟩) a.keys.length c2] 39)) W0 → Strs W0 A a.keys := by
        intro W0 hW hne
        obtain ⟨bq, oq, eq, hcq⟩ := HLa8.out hne
        refine ⟨bq, oq, eq, fun j hj => ?_⟩
        have hl8 := cell_lt (hcq j hj)
        obtain ⟨bq2, oq2, eq2, hcq2⟩ := HLa10 hne
        rw [eq] at eq2; cases eq2
        exact (hW.cell (p := ⟨bq, oq + j, none⟩) (by show bq < gk; omega)).trans (hcq2 j hj)
      generalize hw10 : w9.alloc (.cells #[.int .i64 a.kind, .int .i64 a.queue, .int .i64 a.due, .int .i64 a.retry, .int .i64 a.ref, .int .i64 a.born, .string a.topic, .string a.tag, .string a.body, .slice (some ⟨gk, 0, none⟩) a.keys.length c2] 39) = w10 at *
      obtain ⟨w11, hw11⟩ : ∃ w11, w10.setCell ⟨gk, 0, none⟩ (.string (k0 ++ ⟨#[120]⟩)) = w11 := ⟨_, rfl⟩
      rw [hw11] at hst
      have hsc : Below gk w10 w11 := by rw [← hw11]; exact (Below.refl gk w10).setCell (Nat.le_refl _) _
      have bm11 : Blk w11 w9.heap.size 39 #[.int .i64 a.kind, .int .i64 a.queue, .int .i64 a.due, .int .i64 a.retry, .int .i64 a.ref, .int .i64 a.born, .string a.topic, .string a.tag, .string a.body, .slice (some ⟨gk, 0, none⟩) a.keys.length c2] := (hst.2.block _ bm.lt (by intro e; injection e with e; exact hgne e.symm)).trans bm
      have b11 := b10.below hsc hbal
      have HT11 := Lib.hid (HT10.belowB hsc htl)
      have HB11 := HB10.trans (hsc.mono hlow)
      have HLa11 := Lib.hid (hLam w11 hsc)
      have HLk11 := Lib.hid (Strs.of_row (l := (k0 ++ ⟨#[120]⟩) :: ks) hst.1)
      have HSf := Lib.hid (show sameM { a with keys := (k0 ++ ⟨#[120]⟩) :: ks } a = false from same_keys (by rw [hks]; intro e; injection e with e _; exact strs_app_x k0 e))
      have hSm := same_any { a with keys := (k0 ++ ⟨#[120]⟩) :: ks } a (some ⟨gk, 0, none⟩) A c2 c w11 HLk11.out HLa11.out (by simp; omega) (by omega)
      have hlen2 : ((k0 ++ ⟨#[120]⟩) :: ks).length = a.keys.length := by rw [hkn]; rfl
      rw [HSf.out] at hSm
      dsimp only at hSm
      rw [hlen2] at hSm
      have HSm := Lib.hid hSm
      have cm10 := bm.cell
      have cm11 := bm11.cell
      have ca11 := b11.cell
      have hkzz : k0.size + (⟨#[120]⟩ : ByteArray).size ≤ 9223372036854775807 := hkz
      clear hk0 hks hkn hgk2 hrow hrow10 hst e0 e1 hkz hgl hgne hbal htl hLam hsc HB10 b10 HT10 HLa10 hSm hlen2 hlow
      go_wp2_with (go_at_call 31; refine HSm.out.mono ?_; rintro e w12 ⟨rfl, hb12⟩; have HB12 := bstep HB11 hb12; have HT12 := Lib.hid (HT11.out.below hb12))
      rcases (show n < 3 ∨ 3 ≤ n by omega) with hn3 | hn3
      · have d3 : decide ((3 : Int) ≤ n) = false := decide_eq_false (by omega)
        go_wp2_with fail
        refine (fill_no n _ (.inl hn3)).mono ?_
        rintro e y1 ⟨rfl, hy1⟩
        have HY1 := bstep HB12 hy1
        go_wp2
        go_ret
        exact ⟨rfl, HY1⟩
      rcases (show 1024 < n ∨ n ≤ 1024 by omega) with hm | hm
      · have d3 : decide ((3 : Int) ≤ n) = true := decide_eq_true (by omega)
        have d4 : decide (n ≤ (1024 : Int)) = false := decide_eq_false (by omega)
        go_wp2_with fail
        refine (fill_no n _ (.inr hm)).mono ?_
        rintro e y1 ⟨rfl, hy1⟩
        have HY1 := bstep HB12 hy1
        go_wp2
        go_ret
        exact ⟨rfl, HY1⟩
      obtain ⟨k, rfl⟩ := Int.eq_ofNat_of_zero_le (show 0 ≤ n by omega)
      have hk3 : 3 ≤ k := by omega
      have hk4 : k ≤ 1024 := by omega
      have d3 : decide ((3 : Int) ≤ (k : Int)) = true := decide_eq_true hn3
      have d4 : decide ((k : Int) ≤ (1024 : Int)) = true := decide_eq_true hm
      have hfz : (B (fillL k)).size = k := by rw [B_size, fillL_len hk3]
      have HFZ := Lib.hid hfz
      obtain ⟨fs, hfs⟩ : ∃ fs, B (fillL k) = fs := ⟨_, rfl⟩
      have hLf : L fs = fillL k := by rw [← hfs]; exact L_B _
      have HLf := Lib.hid hLf
      have hF : ∀ W0, Calls Try.prog 33 #[.int .i64 k] W0 fun e w' => e = .returned (.tuple #[.string fs, .bool true]) ∧ Below W0.heap.size W0 w' := fun W0 => hfs ▸ fill_yes k W0 hk3 hk4
      have HF := Lib.hid hF
      have hfk : fs.size = k := by rw [← hfs]; exact hfz
      have hfe : ((fs.size : Int) == (k : Int)) = true := by rw [hfk]; simp
      have hfl : fs.size ≤ 140737488355328 := by omega
      clear hfz hfs hLf hF hfk
      go_wp2_with fail
      refine (HF.out _).mono ?_
      rintro e y1 ⟨rfl, hy1⟩
      have HY1 := Lib.hid (bstep HB12 hy1)
      have HT1 := Lib.hid (HT12.out.below hy1)
      go_wp2_with fail
      refine (rGet_any tb fs _ hfl HT1.out).mono ?_
      rw [HLf.out, get_fillL hk3 hk4]
      rintro e y2 ⟨A3, c3, rfl, hS3, hy2⟩
      have HY2 := bstep HY1.out hy2
      have hnz := nil_size k
      generalize hbd : (nilM k).body = bd at *
      have hkd : (nilM k).keys.length = 0 := rfl
      have hcel : msgCells (nilM k) A3 c3 = #[.int .i64 0, .int .i64 0, .int .i64 0, .int .i64 0, .int .i64 0, .int .i64 0, .string ⟨#[]⟩, .string ⟨#[]⟩, .string bd, .slice A3 0 c3] := by
        rw [← hbd]; rfl
      dsimp only
      rw [hcel]
      have hbe : ((bd.size : Int) == (k : Int)) = true := by rw [hnz]; simp
      clear hcel hkd hbd hnz hS3
      go_wp2
      go_ret
      exact ⟨rfl, balloc HY2⟩
  · go_wp2_with (go_at_call 31; refine HSa.out.mono ?_; rintro e w8 ⟨rfl, hb8⟩; have HB8 := bstep HB6 hb8; have HT8 := Lib.hid (HT6.out.below hb8); have ba8 := ba6.later hb8; have HLa8 := Lib.hid (HL.out.below HB8); have ca8 := ba8.cell)
    have hcp := copy_any a A c w8 HLa8.out (by omega)
    go_wp2_with fail
    refine hcp.mono ?_
    rintro e w9 ⟨⟨v, rfl, A2, c2, rfl, hcc, hrow⟩, hb9⟩
    have HB9 := bstep HB8 hb9
    have b9 := ba8.later hb9
    have HT9 := Lib.hid (HT8.out.below hb9)
    have HLa9 := Lib.hid (HLa8.out.below hb9)
    clear hcp
    by_cases hk0 : a.keys = []
    · have hkz : a.keys.length = 0 := by rw [hk0]; rfl
      have bm := Blk.new w9 39 #[.int .i64 a.kind, .int .i64 a.queue, .int .i64 a.due, .int .i64 a.retry, .int .i64 a.ref, .int .i64 a.born, .string a.topic, .string a.tag, .string a.body, .slice A2 a.keys.length c2]
      have d0 : decide ((0 : Int) < (a.keys.length : Int)) = false := decide_eq_false (by omega)
      have d0' : decide (0 < a.keys.length) = false := decide_eq_false (by omega)
      have d0'' : ¬ 0 < a.keys.length := by omega
      have cm := bm.cell
      have HB10 := balloc (o := .cells #[.int .i64 a.kind, .int .i64 a.queue, .int .i64 a.due, .int .i64 a.retry, .int .i64 a.ref, .int .i64 a.born, .string a.topic, .string a.tag, .string a.body, .slice A2 a.keys.length c2] 39) HB9
      have HT10 := Lib.hid (HT9.out.below (balloc (o := .cells #[.int .i64 a.kind, .int .i64 a.queue, .int .i64 a.due, .int .i64 a.retry, .int .i64 a.ref, .int .i64 a.born, .string a.topic, .string a.tag, .string a.body, .slice A2 a.keys.length c2] 39) (Below.refl _ _)))
      clear hk0 hkz
      rcases (show n < 3 ∨ 3 ≤ n by omega) with hn3 | hn3
      · have d3 : decide ((3 : Int) ≤ n) = false := decide_eq_false (by omega)
        go_wp2_with fail
        refine (fill_no n _ (.inl hn3)).mono ?_
        rintro e y1 ⟨rfl, hy1⟩
        have HY1 := bstep HB10 hy1
        go_wp2
        go_ret
        exact ⟨rfl, HY1⟩
      rcases (show 1024 < n ∨ n ≤ 1024 by omega) with hm | hm
      · have d3 : decide ((3 : Int) ≤ n) = true := decide_eq_true (by omega)
        have d4 : decide (n ≤ (1024 : Int)) = false := decide_eq_false (by omega)
        go_wp2_with fail
        refine (fill_no n _ (.inr hm)).mono ?_
        rintro e y1 ⟨rfl, hy1⟩
        have HY1 := bstep HB10 hy1
        go_wp2
        go_ret
        exact ⟨rfl, HY1⟩
      obtain ⟨k, rfl⟩ := Int.eq_ofNat_of_zero_le (show 0 ≤ n by omega)
      have hk3 : 3 ≤ k := by omega
      have hk4 : k ≤ 1024 := by omega
      have d3 : decide ((3 : Int) ≤ (k : Int)) = true := decide_eq_true hn3
      have d4 : decide ((k : Int) ≤ (1024 : Int)) = true := decide_eq_true hm
      have hfz : (B (fillL k)).size = k := by rw [B_size, fillL_len hk3]
      have HFZ := Lib.hid hfz
      obtain ⟨fs, hfs⟩ : ∃ fs, B (fillL k) = fs := ⟨_, rfl⟩
      have hLf : L fs = fillL k := by rw [← hfs]; exact L_B _
      have HLf := Lib.hid hLf
      have hF : ∀ W0, Calls Try.prog 33 #[.int .i64 k] W0 fun e w' => e = .returned (.tuple #[.string fs, .bool true]) ∧ Below W0.heap.size W0 w' := fun W0 => hfs ▸ fill_yes k W0 hk3 hk4
      have HF := Lib.hid hF
      have hfk : fs.size = k := by rw [← hfs]; exact hfz
      have hfe : ((fs.size : Int) == (k : Int)) = true := by rw [hfk]; simp
      have hfl : fs.size ≤ 140737488355328 := by omega
      clear hfz hfs hLf hF hfk
      go_wp2_with fail
      refine (HF.out _).mono ?_
      rintro e y1 ⟨rfl, hy1⟩
      have HY1 := Lib.hid (bstep HB10 hy1)
      have HT1 := Lib.hid (HT10.out.below hy1)
      go_wp2_with fail
      refine (rGet_any tb fs _ hfl HT1.out).mono ?_
      rw [HLf.out, get_fillL hk3 hk4]
      rintro e y2 ⟨A3, c3, rfl, hS3, hy2⟩
      have HY2 := bstep HY1.out hy2
      have hnz := nil_size k
      generalize hbd : (nilM k).body = bd at *
      have hkd : (nilM k).keys.length = 0 := rfl
      have hcel : msgCells (nilM k) A3 c3 = #[.int .i64 0, .int .i64 0, .int .i64 0, .int .i64 0, .int .i64 0, .int .i64 0, .string ⟨#[]⟩, .string ⟨#[]⟩, .string bd, .slice A3 0 c3] := by
        rw [← hbd]; rfl
      dsimp only
      rw [hcel]
      have hbe : ((bd.size : Int) == (k : Int)) = true := by rw [hnz]; simp
      clear hcel hkd hbd hnz hS3
      go_wp2
      go_ret
      exact ⟨rfl, balloc HY2⟩
    · obtain ⟨k0, ks, hks⟩ : ∃ k0 ks, a.keys = k0 :: ks := by
        cases h : a.keys with
        | nil => exact absurd h hk0
        | cons x l => exact ⟨x, l, rfl⟩
      have hkn : a.keys.length = ks.length + 1 := by rw [hks]; rfl
      have d0 : decide ((0 : Int) < (a.keys.length : Int)) = true := decide_eq_true (by omega)
      have d0' : decide (0 < a.keys.length) = true := decide_eq_true (by omega)
      have hi0 : (0 : Int) < (a.keys.length : Int) := by omega
      have hi1 : 0 < a.keys.length := by omega
      obtain ⟨gk, hgk, hgk2⟩ : ∃ gk, A2 = some ⟨gk, 0, none⟩ ∧ w8.heap.size ≤ gk := by
        rcases hrow.2 with ⟨e1, hz⟩ | ⟨g, cap, cur, hv, hbk, _⟩
        · omega
        · injection hv with h1 _ _; exact ⟨g, h1, hbk⟩
      subst hgk
      have hrow10 := hrow.alloc (.cells #[.int .i64 a.kind, .int .i64 a.queue, .int .i64 a.due, .int .i64 a.retry, .int .i64 a.ref, .int .i64 a.born, .string a.topic, .string a.tag, .string a.body, .slice (some ⟨gk, 0, none⟩) a.keys.length c2] 39)
      have ce := hrow10.cellAt 0 (by omega)
      have fz := hrow10.frozenAt 0
      have hst := hrow10.stored 0 (.string (k0 ++ ⟨#[120]⟩))
      have e0 : (a.keys.map Value.string)[0]? = some (.string k0) := by rw [hks]; rfl
      rw [e0] at ce
      have e1 : (a.keys.map Value.string).set 0 (.string (k0 ++ ⟨#[120]⟩)) = (((k0 ++ ⟨#[120]⟩) :: ks).map Value.string) := by rw [hks]; rfl
      rw [e1] at hst
      have hkz : k0.size + 1 ≤ 9223372036854775807 := by
        have := g5a k0 (by rw [hks]; simp)
        omega
      have bm := Blk.new w9 39 #[.int .i64 a.kind, .int .i64 a.queue, .int .i64 a.due, .int .i64 a.retry, .int .i64 a.ref, .int .i64 a.born, .string a.topic, .string a.tag, .string a.body, .slice (some ⟨gk, 0, none⟩) a.keys.length c2]
      have HB10 := balloc (o := .cells #[.int .i64 a.kind, .int .i64 a.queue, .int .i64 a.due, .int .i64 a.retry, .int .i64 a.ref, .int .i64 a.born, .string a.topic, .string a.tag, .string a.body, .slice (some ⟨gk, 0, none⟩) a.keys.length c2] 39) HB9
      have b10 := b9.later (balloc (o := .cells #[.int .i64 a.kind, .int .i64 a.queue, .int .i64 a.due, .int .i64 a.retry, .int .i64 a.ref, .int .i64 a.born, .string a.topic, .string a.tag, .string a.body, .slice (some ⟨gk, 0, none⟩) a.keys.length c2] 39) (Below.refl _ _))
      have HT10 := HT9.out.below (balloc (o := .cells #[.int .i64 a.kind, .int .i64 a.queue, .int .i64 a.due, .int .i64 a.retry, .int .i64 a.ref, .int .i64 a.born, .string a.topic, .string a.tag, .string a.body, .slice (some ⟨gk, 0, none⟩) a.keys.length c2] 39) (Below.refl _ _))
      have HLa10 := HLa9.out.below (balloc (o := .cells #[.int .i64 a.kind, .int .i64 a.queue, .int .i64 a.due, .int .i64 a.retry, .int .i64 a.ref, .int .i64 a.born, .string a.topic, .string a.tag, .string a.body, .slice (some ⟨gk, 0, none⟩) a.keys.length c2] 39) (Below.refl _ _))
      have hgl := (hrow10.lt gk rfl).2
      have hgne : gk ≠ w9.heap.size := by have := (hrow.lt gk rfl).2; omega
      have hlow : w.heap.size ≤ gk := by have := HB8.size; omega
      have hbal : w.heap.size < gk := by have := ba8.lt; omega
      have htl : tb < gk := by have := HT8.out.lt; omega
      have hLam : ∀ (W0 : World), Below gk (w9.alloc (.cells #[.int .i64 a.kind, .int .i64 a.queue, .int .i64 a.due, .int .i64 a.retry, .int .i64 a.ref, .int .i64 a.born, .string a.topic, .string a.tag, .string a.body, .slice (some ⟨gk, 0, none⟩) a.keys.length c2] 39)) W0 → Strs W0 A a.keys := by
        intro W0 hW hne
        obtain ⟨bq, oq, eq, hcq⟩ := HLa8.out hne
        refine ⟨bq, oq, eq, fun j hj => ?_⟩
        have hl8 := cell_lt (hcq j hj)
        obtain ⟨bq2, oq2, eq2, hcq2⟩ := HLa10 hne
        rw [eq] at eq2; cases eq2
        exact (hW.cell (p := ⟨bq, oq + j, none⟩) (by show bq < gk; omega)).trans (hcq2 j hj)
      generalize hw10 : w9.alloc (.cells #[.int .i64 a.kind, .int .i64 a.queue, .int .i64 a.due, .int .i64 a.retry, .int .i64 a.ref, .int .i64 a.born, .string a.topic, .string a.tag, .string a.body, .slice (some ⟨gk, 0, none⟩) a.keys.length c2] 39) = w10 at *
      obtain ⟨w11, hw11⟩ : ∃ w11, w10.setCell ⟨gk, 0, none⟩ (.string (k0 ++ ⟨#[120]⟩)) = w11 := ⟨_, rfl⟩
      rw [hw11] at hst
      have hsc : Below gk w10 w11 := by rw [← hw11]; exact (Below.refl gk w10).setCell (Nat.le_refl _) _
      have bm11 : Blk w11 w9.heap.size 39 #[.int .i64 a.kind, .int .i64 a.queue, .int .i64 a.due, .int .i64 a.retry, .int .i64 a.ref, .int .i64 a.born, .string a.topic, .string a.tag, .string a.body, .slice (some ⟨gk, 0, none⟩) a.keys.length c2] := (hst.2.block _ bm.lt (by intro e; injection e with e; exact hgne e.symm)).trans bm
      have b11 := b10.below hsc hbal
      have HT11 := Lib.hid (HT10.belowB hsc htl)
      have HB11 := HB10.trans (hsc.mono hlow)
      have HLa11 := Lib.hid (hLam w11 hsc)
      have HLk11 := Lib.hid (Strs.of_row (l := (k0 ++ ⟨#[120]⟩) :: ks) hst.1)
      have HSf := Lib.hid (show sameM { a with keys := (k0 ++ ⟨#[120]⟩) :: ks } a = false from same_keys (by rw [hks]; intro e; injection e with e _; exact strs_app_x k0 e))
      have hSm := same_any { a with keys := (k0 ++ ⟨#[120]⟩) :: ks } a (some ⟨gk, 0, none⟩) A c2 c w11 HLk11.out HLa11.out (by simp; omega) (by omega)
      have hlen2 : ((k0 ++ ⟨#[120]⟩) :: ks).length = a.keys.length := by rw [hkn]; rfl
      rw [HSf.out] at hSm
      dsimp only at hSm
      rw [hlen2] at hSm
      have HSm := Lib.hid hSm
      have cm10 := bm.cell
      have cm11 := bm11.cell
      have ca11 := b11.cell
      have hkzz : k0.size + (⟨#[120]⟩ : ByteArray).size ≤ 9223372036854775807 := hkz
      clear hk0 hks hkn hgk2 hrow hrow10 hst e0 e1 hkz hgl hgne hbal htl hLam hsc HB10 b10 HT10 HLa10 hSm hlen2 hlow
      go_wp2_with (go_at_call 31; refine HSm.out.mono ?_; rintro e w12 ⟨rfl, hb12⟩; have HB12 := bstep HB11 hb12; have HT12 := Lib.hid (HT11.out.below hb12))
      rcases (show n < 3 ∨ 3 ≤ n by omega) with hn3 | hn3
      · have d3 : decide ((3 : Int) ≤ n) = false := decide_eq_false (by omega)
        go_wp2_with fail
        refine (fill_no n _ (.inl hn3)).mono ?_
        rintro e y1 ⟨rfl, hy1⟩
        have HY1 := bstep HB12 hy1
        go_wp2
        go_ret
        exact ⟨rfl, HY1⟩
      rcases (show 1024 < n ∨ n ≤ 1024 by omega) with hm | hm
      · have d3 : decide ((3 : Int) ≤ n) = true := decide_eq_true (by omega)
        have d4 : decide (n ≤ (1024 : Int)) = false := decide_eq_false (by omega)
        go_wp2_with fail
        refine (fill_no n _ (.inr hm)).mono ?_
        rintro e y1 ⟨rfl, hy1⟩
        have HY1 := bstep HB12 hy1
        go_wp2
        go_ret
        exact ⟨rfl, HY1⟩
      obtain ⟨k, rfl⟩ := Int.eq_ofNat_of_zero_le (show 0 ≤ n by omega)
      have hk3 : 3 ≤ k := by omega
      have hk4 : k ≤ 1024 := by omega
      have d3 : decide ((3 : Int) ≤ (k : Int)) = true := decide_eq_true hn3
      have d4 : decide ((k : Int) ≤ (1024 : Int)) = true := decide_eq_true hm
      have hfz : (B (fillL k)).size = k := by rw [B_size, fillL_len hk3]
      have HFZ := Lib.hid hfz
      obtain ⟨fs, hfs⟩ : ∃ fs, B (fillL k) = fs := ⟨_, rfl⟩
      have hLf : L fs = fillL k := by rw [← hfs]; exact L_B _
      have HLf := Lib.hid hLf
      have hF : ∀ W0, Calls Try.prog 33 #[.int .i64 k] W0 fun e w' => e = .returned (.tuple #[.string fs, .bool true]) ∧ Below W0.heap.size W0 w' := fun W0 => hfs ▸ fill_yes k W0 hk3 hk4
      have HF := Lib.hid hF
      have hfk : fs.size = k := by rw [← hfs]; exact hfz
      have hfe : ((fs.size : Int) == (k : Int)) = true := by rw [hfk]; simp
      have hfl : fs.size ≤ 140737488355328 := by omega
      clear hfz hfs hLf hF hfk
      go_wp2_with fail
      refine (HF.out _).mono ?_
      rintro e y1 ⟨rfl, hy1⟩
      have HY1 := Lib.hid (bstep HB12 hy1)
      have HT1 := Lib.hid (HT12.out.below hy1)
      go_wp2_with fail
      refine (rGet_any tb fs _ hfl HT1.out).mono ?_
      rw [HLf.out, get_fillL hk3 hk4]
      rintro e y2 ⟨A3, c3, rfl, hS3, hy2⟩
      have HY2 := bstep HY1.out hy2
      have hnz := nil_size k
      generalize hbd : (nilM k).body = bd at *
      have hkd : (nilM k).keys.length = 0 := rfl
      have hcel : msgCells (nilM k) A3 c3 = #[.int .i64 0, .int .i64 0, .int .i64 0, .int .i64 0, .int .i64 0, .int .i64 0, .string ⟨#[]⟩, .string ⟨#[]⟩, .string bd, .slice A3 0 c3] := by
        rw [← hbd]; rfl
      dsimp only
      rw [hcel]
      have hbe : ((bd.size : Int) == (k : Int)) = true := by rw [hnz]; simp
      clear hcel hkd hbd hnz hS3
      go_wp2
      go_ret
      exact ⟨rfl, balloc HY2⟩
  · go_wp2_with (go_at_call 31; refine HSa.out.mono ?_; rintro e w8 ⟨rfl, hb8⟩; have HB8 := bstep HB6 hb8; have HT8 := Lib.hid (HT6.out.below hb8); have ba8 := ba6.later hb8; have HLa8 := Lib.hid (HL.out.below HB8); have ca8 := ba8.cell)
    have hcp := copy_any a A c w8 HLa8.out (by omega)
    go_wp2_with fail
    refine hcp.mono ?_
    rintro e w9 ⟨⟨v, rfl, A2, c2, rfl, hcc, hrow⟩, hb9⟩
    have HB9 := bstep HB8 hb9
    have b9 := ba8.later hb9
    have HT9 := Lib.hid (HT8.out.below hb9)
    have HLa9 := Lib.hid (HLa8.out.below hb9)
    clear hcp
    by_cases hk0 : a.keys = []
    · have hkz : a.keys.length = 0 := by rw [hk0]; rfl
      have bm := Blk.new w9 39 #[.int .i64 a.kind, .int .i64 a.queue, .int .i64 a.due, .int .i64 a.retry, .int .i64 a.ref, .int .i64 a.born, .string a.topic, .string a.tag, .string a.body, .slice A2 a.keys.length c2]
      have d0 : decide ((0 : Int) < (a.keys.length : Int)) = false := decide_eq_false (by omega)
      have d0' : decide (0 < a.keys.length) = false := decide_eq_false (by omega)
      have d0'' : ¬ 0 < a.keys.length := by omega
      have cm := bm.cell
      have HB10 := balloc (o := .cells #[.int .i64 a.kind, .int .i64 a.queue, .int .i64 a.due, .int .i64 a.retry, .int .i64 a.ref, .int .i64 a.born, .string a.topic, .string a.tag, .string a.body, .slice A2 a.keys.length c2] 39) HB9
      have HT10 := Lib.hid (HT9.out.below (balloc (o := .cells #[.int .i64 a.kind, .int .i64 a.queue, .int .i64 a.due, .int .i64 a.retry, .int .i64 a.ref, .int .i64 a.born, .string a.topic, .string a.tag, .string a.body, .slice A2 a.keys.length c2] 39) (Below.refl _ _)))
      clear hk0 hkz
      rcases (show n < 3 ∨ 3 ≤ n by omega) with hn3 | hn3
      · have d3 : decide ((3 : Int) ≤ n) = false := decide_eq_false (by omega)
        go_wp2_with fail
        refine (fill_no n _ (.inl hn3)).mono ?_
        rintro e y1 ⟨rfl, hy1⟩
        have HY1 := bstep HB10 hy1
        go_wp2
        go_ret
        exact ⟨rfl, HY1⟩
      rcases (show 1024 < n ∨ n ≤ 1024 by omega) with hm | hm
      · have d3 : decide ((3 : Int) ≤ n) = true := decide_eq_true (by omega)
        have d4 : decide (n ≤ (1024 : Int)) = false := decide_eq_false (by omega)
        go_wp2_with fail
        refine (fill_no n _ (.inr hm)).mono ?_
        rintro e y1 ⟨rfl, hy1⟩
        have HY1 := bstep HB10 hy1
        go_wp2
        go_ret
        exact ⟨rfl, HY1⟩
      obtain ⟨k, rfl⟩ := Int.eq_ofNat_of_zero_le (show 0 ≤ n by omega)
      have hk3 : 3 ≤ k := by omega
      have hk4 : k ≤ 1024 := by omega
      have d3 : decide ((3 : Int) ≤ (k : Int)) = true := decide_eq_true hn3
      have d4 : decide ((k : Int) ≤ (1024 : Int)) = true := decide_eq_true hm
      have hfz : (B (fillL k)).size = k := by rw [B_size, fillL_len hk3]
      have HFZ := Lib.hid hfz
      obtain ⟨fs, hfs⟩ : ∃ fs, B (fillL k) = fs := ⟨_, rfl⟩
      have hLf : L fs = fillL k := by rw [← hfs]; exact L_B _
      have HLf := Lib.hid hLf
      have hF : ∀ W0, Calls Try.prog 33 #[.int .i64 k] W0 fun e w' => e = .returned (.tuple #[.string fs, .bool true]) ∧ Below W0.heap.size W0 w' := fun W0 => hfs ▸ fill_yes k W0 hk3 hk4
      have HF := Lib.hid hF
      have hfk : fs.size = k := by rw [← hfs]; exact hfz
      have hfe : ((fs.size : Int) == (k : Int)) = true := by rw [hfk]; simp
      have hfl : fs.size ≤ 140737488355328 := by omega
      clear hfz hfs hLf hF hfk
      go_wp2_with fail
      refine (HF.out _).mono ?_
      rintro e y1 ⟨rfl, hy1⟩
      have HY1 := Lib.hid (bstep HB10 hy1)
      have HT1 := Lib.hid (HT10.out.below hy1)
      go_wp2_with fail
      refine (rGet_any tb fs _ hfl HT1.out).mono ?_
      rw [HLf.out, get_fillL hk3 hk4]
      rintro e y2 ⟨A3, c3, rfl, hS3, hy2⟩
      have HY2 := bstep HY1.out hy2
      have hnz := nil_size k
      generalize hbd : (nilM k).body = bd at *
      have hkd : (nilM k).keys.length = 0 := rfl
      have hcel : msgCells (nilM k) A3 c3 = #[.int .i64 0, .int .i64 0, .int .i64 0, .int .i64 0, .int .i64 0, .int .i64 0, .string ⟨#[]⟩, .string ⟨#[]⟩, .string bd, .slice A3 0 c3] := by
        rw [← hbd]; rfl
      dsimp only
      rw [hcel]
      have hbe : ((bd.size : Int) == (k : Int)) = true := by rw [hnz]; simp
      clear hcel hkd hbd hnz hS3
      go_wp2
      go_ret
      exact ⟨rfl, balloc HY2⟩
    · obtain ⟨k0, ks, hks⟩ : ∃ k0 ks, a.keys = k0 :: ks := by
        cases h : a.keys with
        | nil => exact absurd h hk0
        | cons x l => exact ⟨x, l, rfl⟩
      have hkn : a.keys.length = ks.length + 1 := by rw [hks]; rfl
      have d0 : decide ((0 : Int) < (a.keys.length : Int)) = true := decide_eq_true (by omega)
      have d0' : decide (0 < a.keys.length) = true := decide_eq_true (by omega)
      have hi0 : (0 : Int) < (a.keys.length : Int) := by omega
      have hi1 : 0 < a.keys.length := by omega
      obtain ⟨gk, hgk, hgk2⟩ : ∃ gk, A2 = some ⟨gk, 0, none⟩ ∧ w8.heap.size ≤ gk := by
        rcases hrow.2 with ⟨e1, hz⟩ | ⟨g, cap, cur, hv, hbk, _⟩
        · omega
        · injection hv with h1 _ _; exact ⟨g, h1, hbk⟩
      subst hgk
      have hrow10 := hrow.alloc (.cells #[.int .i64 a.kind, .int .i64 a.queue, .int .i64 a.due, .int .i64 a.retry, .int .i64 a.ref, .int .i64 a.born, .string a.topic, .string a.tag, .string a.body, .slice (some ⟨gk, 0, none⟩) a.keys.length c2] 39)
      have ce := hrow10.cellAt 0 (by omega)
      have fz := hrow10.frozenAt 0
      have hst := hrow10.stored 0 (.string (k0 ++ ⟨#[120]⟩))
      have e0 : (a.keys.map Value.string)[0]? = some (.string k0) := by rw [hks]; rfl
      rw [e0] at ce
      have e1 : (a.keys.map Value.string).set 0 (.string (k0 ++ ⟨#[120]⟩)) = (((k0 ++ ⟨#[120]⟩) :: ks).map Value.string) := by rw [hks]; rfl
      rw [e1] at hst
      have hkz : k0.size + 1 ≤ 9223372036854775807 := by
        have := g5a k0 (by rw [hks]; simp)
        omega
      have bm := Blk.new w9 39 #[.int .i64 a.kind, .int .i64 a.queue, .int .i64 a.due, .int .i64 a.retry, .int .i64 a.ref, .int .i64 a.born, .string a.topic, .string a.tag, .string a.body, .slice (some ⟨gk, 0, none⟩) a.keys.length c2]
      have HB10 := balloc (o := .cells #[.int .i64 a.kind, .int .i64 a.queue, .int .i64 a.due, .int .i64 a.retry, .int .i64 a.ref, .int .i64 a.born, .string a.topic, .string a.tag, .string a.body, .slice (some ⟨gk, 0, none⟩) a.keys.length c2] 39) HB9
      have b10 := b9.later (balloc (o := .cells #[.int .i64 a.kind, .int .i64 a.queue, .int .i64 a.due, .int .i64 a.retry, .int .i64 a.ref, .int .i64 a.born, .string a.topic, .string a.tag, .string a.body, .slice (some ⟨gk, 0, none⟩) a.keys.length c2] 39) (Below.refl _ _))
      have HT10 := HT9.out.below (balloc (o := .cells #[.int .i64 a.kind, .int .i64 a.queue, .int .i64 a.due, .int .i64 a.retry, .int .i64 a.ref, .int .i64 a.born, .string a.topic, .string a.tag, .string a.body, .slice (some ⟨gk, 0, none⟩) a.keys.length c2] 39) (Below.refl _ _))
      have HLa10 := HLa9.out.below (balloc (o := .cells #[.int .i64 a.kind, .int .i64 a.queue, .int .i64 a.due, .int .i64 a.retry, .int .i64 a.ref, .int .i64 a.born, .string a.topic, .string a.tag, .string a.body, .slice (some ⟨gk, 0, none⟩) a.keys.length c2] 39) (Below.refl _ _))
      have hgl := (hrow10.lt gk rfl).2
      have hgne : gk ≠ w9.heap.size := by have := (hrow.lt gk rfl).2; omega
      have hlow : w.heap.size ≤ gk := by have := HB8.size; omega
      have hbal : w.heap.size < gk := by have := ba8.lt; omega
      have htl : tb < gk := by have := HT8.out.lt; omega
      have hLam : ∀ (W0 : World), Below gk (w9.alloc (.cells #[.int .i64 a.kind, .int .i64 a.queue, .int .i64 a.due, .int .i64 a.retry, .int .i64 a.ref, .int .i64 a.born, .string a.topic, .string a.tag, .string a.body, .slice (some ⟨gk, 0, none⟩) a.keys.length c2] 39)) W0 → Strs W0 A a.keys := by
        intro W0 hW hne
        obtain ⟨bq, oq, eq, hcq⟩ := HLa8.out hne
        refine ⟨bq, oq, eq, fun j hj => ?_⟩
        have hl8 := cell_lt (hcq j hj)
        obtain ⟨bq2, oq2, eq2, hcq2⟩ := HLa10 hne
        rw [eq] at eq2; cases eq2
        exact (hW.cell (p := ⟨bq, oq + j, none⟩) (by show bq < gk; omega)).trans (hcq2 j hj)
      generalize hw10 : w9.alloc (.cells #[.int .i64 a.kind, .int .i64 a.queue, .int .i64 a.due, .int .i64 a.retry, .int .i64 a.ref, .int .i64 a.born, .string a.topic, .string a.tag, .string a.body, .slice (some ⟨gk, 0, none⟩) a.keys.length c2] 39) = w10 at *
      obtain ⟨w11, hw11⟩ : ∃ w11, w10.setCell ⟨gk, 0, none⟩ (.string (k0 ++ ⟨#[120]⟩)) = w11 := ⟨_, rfl⟩
      rw [hw11] at hst
      have hsc : Below gk w10 w11 := by rw [← hw11]; exact (Below.refl gk w10).setCell (Nat.le_refl _) _
      have bm11 : Blk w11 w9.heap.size 39 #[.int .i64 a.kind, .int .i64 a.queue, .int .i64 a.due, .int .i64 a.retry, .int .i64 a.ref, .int .i64 a.born, .string a.topic, .string a.tag, .string a.body, .slice (some ⟨gk, 0, none⟩) a.keys.length c2] := (hst.2.block _ bm.lt (by intro e; injection e with e; exact hgne e.symm)).trans bm
      have b11 := b10.below hsc hbal
      have HT11 := Lib.hid (HT10.belowB hsc htl)
      have HB11 := HB10.trans (hsc.mono hlow)
      have HLa11 := Lib.hid (hLam w11 hsc)
      have HLk11 := Lib.hid (Strs.of_row (l := (k0 ++ ⟨#[120]⟩) :: ks) hst.1)
      have HSf := Lib.hid (show sameM { a with keys := (k0 ++ ⟨#[120]⟩) :: ks } a = false from same_keys (by rw [hks]; intro e; injection e with e _; exact strs_app_x k0 e))
      have hSm := same_any { a with keys := (k0 ++ ⟨#[120]⟩) :: ks } a (some ⟨gk, 0, none⟩) A c2 c w11 HLk11.out HLa11.out (by simp; omega) (by omega)
      have hlen2 : ((k0 ++ ⟨#[120]⟩) :: ks).length = a.keys.length := by rw [hkn]; rfl
      rw [HSf.out] at hSm
      dsimp only at hSm
      rw [hlen2] at hSm
      have HSm := Lib.hid hSm
      have cm10 := bm.cell
      have cm11 := bm11.cell
      have ca11 := b11.cell
      have hkzz : k0.size + (⟨#[120]⟩ : ByteArray).size ≤ 9223372036854775807 := hkz
      clear hk0 hks hkn hgk2 hrow hrow10 hst e0 e1 hkz hgl hgne hbal htl hLam hsc HB10 b10 HT10 HLa10 hSm hlen2 hlow
      go_wp2_with (go_at_call 31; refine HSm.out.mono ?_; rintro e w12 ⟨rfl, hb12⟩; have HB12 := bstep HB11 hb12; have HT12 := Lib.hid (HT11.out.below hb12))
      rcases (show n < 3 ∨ 3 ≤ n by omega) with hn3 | hn3
      · have d3 : decide ((3 : Int) ≤ n) = false := decide_eq_false (by omega)
        go_wp2_with fail
        refine (fill_no n _ (.inl hn3)).mono ?_
        rintro e y1 ⟨rfl, hy1⟩
        have HY1 := bstep HB12 hy1
        go_wp2
        go_ret
        exact ⟨rfl, HY1⟩
      rcases (show 1024 < n ∨ n ≤ 1024 by omega) with hm | hm
      · have d3 : decide ((3 : Int) ≤ n) = true := decide_eq_true (by omega)
        have d4 : decide (n ≤ (1024 : Int)) = false := decide_eq_false (by omega)
        go_wp2_with fail
        refine (fill_no n _ (.inr hm)).mono ?_
        rintro e y1 ⟨rfl, hy1⟩
        have HY1 := bstep HB12 hy1
        go_wp2
        go_ret
        exact ⟨rfl, HY1⟩
      obtain ⟨k, rfl⟩ := Int.eq_ofNat_of_zero_le (show 0 ≤ n by omega)
      have hk3 : 3 ≤ k := by omega
      have hk4 : k ≤ 1024 := by omega
      have d3 : decide ((3 : Int) ≤ (k : Int)) = true := decide_eq_true hn3
      have d4 : decide ((k : Int) ≤ (1024 : Int)) = true := decide_eq_true hm
      have hfz : (B (fillL k)).size = k := by rw [B_size, fillL_len hk3]
      have HFZ := Lib.hid hfz
      obtain ⟨fs, hfs⟩ : ∃ fs, B (fillL k) = fs := ⟨_, rfl⟩
      have hLf : L fs = fillL k := by rw [← hfs]; exact L_B _
      have HLf := Lib.hid hLf
      have hF : ∀ W0, Calls Try.prog 33 #[.int .i64 k] W0 fun e w' => e = .returned (.tuple #[.string fs, .bool true]) ∧ Below W0.heap.size W0 w' := fun W0 => hfs ▸ fill_yes k W0 hk3 hk4
      have HF := Lib.hid hF
      have hfk : fs.size = k := by rw [← hfs]; exact hfz
      have hfe : ((fs.size : Int) == (k : Int)) = true := by rw [hfk]; simp
      have hfl : fs.size ≤ 140737488355328 := by omega
      clear hfz hfs hLf hF hfk
      go_wp2_with fail
      refine (HF.out _).mono ?_
      rintro e y1 ⟨rfl, hy1⟩
      have HY1 := Lib.hid (bstep HB12 hy1)
      have HT1 := Lib.hid (HT12.out.below hy1)
      go_wp2_with fail
      refine (rGet_any tb fs _ hfl HT1.out).mono ?_
      rw [HLf.out, get_fillL hk3 hk4]
      rintro e y2 ⟨A3, c3, rfl, hS3, hy2⟩
      have HY2 := bstep HY1.out hy2
      have hnz := nil_size k
      generalize hbd : (nilM k).body = bd at *
      have hkd : (nilM k).keys.length = 0 := rfl
      have hcel : msgCells (nilM k) A3 c3 = #[.int .i64 0, .int .i64 0, .int .i64 0, .int .i64 0, .int .i64 0, .int .i64 0, .string ⟨#[]⟩, .string ⟨#[]⟩, .string bd, .slice A3 0 c3] := by
        rw [← hbd]; rfl
      dsimp only
      rw [hcel]
      have hbe : ((bd.size : Int) == (k : Int)) = true := by rw [hnz]; simp
      clear hcel hkd hbd hnz hS3
      go_wp2
      go_ret
      exact ⟨rfl, balloc HY2⟩

end Go.Proofs.Ytnlpohcnlmdocaa
