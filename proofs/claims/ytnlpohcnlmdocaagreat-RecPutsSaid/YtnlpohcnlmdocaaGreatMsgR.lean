/- The document's comparison of two records. -/
import Derived.Test.YtnlpohcnlmdocaaGreatSames
namespace Go.Proofs.YtnlpohcnlmdocaaGreat
open Go.RowKit Go.Shelf


set_option maxHeartbeats 4000000 in
theorem rSame_any (a b : Msg) (A A' : Option Addr) (c c' : Nat) (w : World) (hl : Strs w A a.keys) (hl' : Strs w A' b.keys) (hn : a.keys.length ≤ 9223372036854775806) (hn' : b.keys.length ≤ 9223372036854775806) :
    Calls Tryz.prog 12 #[.agg #[.int .i64 a.kind, .int .i64 a.queue, .int .i64 a.due, .int .i64 a.retry, .int .i64 a.ref, .int .i64 a.born, .string a.topic, .string a.tag, .string a.body, .slice A a.keys.length c], .agg #[.int .i64 b.kind, .int .i64 b.queue, .int .i64 b.due, .int .i64 b.retry, .int .i64 b.ref, .int .i64 b.born, .string b.topic, .string b.tag, .string b.body, .slice A' b.keys.length c']] w fun e w' => e = .returned (.bool (sameM a b)) ∧ Below w.heap.size w w' := by
  have hK : ∀ (o1 o2 : Obj), Calls Tryz.prog 35 #[.slice A a.keys.length c, .slice A' b.keys.length c'] ((w.alloc o1).alloc o2) fun e w' => e = .returned (.bool (decide (a.keys = b.keys))) ∧ ∃ q, w' = ((w.alloc o1).alloc o2).drewN q :=
    fun o1 o2 => rSames_any _ _ _ _ _ _ _ (hl.below (balloc (balloc (Below.refl _ _)))) (hl'.below (balloc (balloc (Below.refl _ _)))) hn hn'
  have HL := Lib.hid hl
  have HL' := Lib.hid hl'
  clear hl hl'
  rcases same_ways a b with ⟨h0, hS⟩ | ⟨h0, h1, hS⟩ | ⟨h0, h1, h2, hS⟩ | ⟨h0, h1, h2, h3, hS⟩ | ⟨h0, h1, h2, h3, h4, hS⟩ | ⟨h0, h1, h2, h3, h4, h5, hS⟩ | ⟨h0, h1, h2, h3, h4, h5, h6, hS⟩ | ⟨h0, h1, h2, h3, h4, h5, h6, h7, hS⟩ | ⟨h0, h1, h2, h3, h4, h5, h6, h7, h8, hS⟩ | ⟨h0, h1, h2, h3, h4, h5, h6, h7, h8, hS⟩
  all_goals
    have HS := Lib.hid hS
    clear hS
    go_enter Tryz.func12, Tryz.ntmps12
    go_wp2_with (first | (go_at_call 35; refine (hK _ _).mono ?_; rintro e w' ⟨rfl, q, rfl⟩))
    go_ret
    exact ⟨ret_bool HS.out.symm, by repeat (first | exact Below.refl _ _ | apply bdrewN | apply balloc)⟩

end Go.Proofs.YtnlpohcnlmdocaaGreat
