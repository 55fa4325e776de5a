/-
  No cell of these rows narrows 'for every input' (looked for: loops, veiled, ifaces, maps, wideKeys, modest, calm, conditions, laid).
  DERIVED. THE GIVEN ROWS OF THIS SEAT. 6 by the template 'for every input the law returns true; each argument reads behind the call as it read before'; 0 by the template 'total and deterministic' (their statements: YtnlpohcnlmdocaaTotals.lean).
  GIVEN WITH THE SEED: the statements are not yours to turn. If you find one false, say at which input.
  Laid BY PROGRAM, IN A SANDBOX (cutbox-rows.mjs): the forced cells as the released guide's own fill.sh prints them over the translation 627825a27ea3f5e2… (all of the seat's roots in one cut). By AI agents, Wed Nov 11 2026. No macro, syntax, notation, axiom, sorry.
-/
import Derived.Test.YtnlpohcnlmdocaaChecked
import GoSem.Claim
import GoSem.ClaimJoined
import GoSem.ClaimMapViews
import Derived.JoinedTies
import Derived.KernelRfl
namespace Go.Proofs.Ytnlpohcnlmdocaa
/- THE CELL 'sum', in the pinned program and in every row, IS THE sha256 OF THE DUMP (.gsa) THAT YtnlpohcnlmdocaaProg.lean LOADS. Nothing in Lean hashes anything: it is a label: what it is worth is what the hold of that sum in a sandbox is worth. -/
noncomputable def Try.pinned : Pinned := { name := "ytnlpohcnlmdocaa", sum := "627825a27ea3f5e2740acf4ceb5cfc0bb3ae5b4bff9fd411871d948689e639e8", checked := Try.checked }
namespace Rows
def none {H : Type} : Left H := { results := [], args := [] }

/-- 'reveillelaw12.LevelLaps': WHATEVER THE INPUT: true; the input reads as it did. -/
def levelLapsSpec : ChangeSpec := { name := "levelLaps", fn := fun _ => fun
  | [d1, d2, d3] => { results := [.lit (.bool true)], args := [d1, d2, d3] }
  | _ => none }
def levelLapsRow : OpenClaim := { program := "ytnlpohcnlmdocaa", sum := "627825a27ea3f5e2740acf4ceb5cfc0bb3ae5b4bff9fd411871d948689e639e8", func := "reveille/reveillelaw12.LevelLaps", spec := "levelLaps", apart := false }
def LevelLapsSaid : Prop := levelLapsRow.holds Try.pinned (OpenSpec.ofChange levelLapsSpec)

/-- ITS FALSE NEIGHBOUR: 'it returns false'. Refute it at one input. -/
def levelLapsWrong : ChangeSpec := { name := "levelLaps", fn := fun _ => fun
  | [d1, d2, d3] => { results := [.lit (.bool false)], args := [d1, d2, d3] }
  | _ => none }
def LevelLapsWrongFalsely : Prop := levelLapsRow.holds Try.pinned (OpenSpec.ofChange levelLapsWrong)

/-- 'reveillelaw17.PendCounts': WHATEVER THE INPUT: true; the input reads as it did. -/
def pendCountsSpec : ChangeSpec := { name := "pendCounts", fn := fun _ => fun
  | [d] => { results := [.lit (.bool true)], args := [d] }
  | _ => none }
def pendCountsRow : OpenClaim := { program := "ytnlpohcnlmdocaa", sum := "627825a27ea3f5e2740acf4ceb5cfc0bb3ae5b4bff9fd411871d948689e639e8", func := "reveille/reveillelaw17.PendCounts", spec := "pendCounts", unfollowed := true, recurses := true, apart := false }
def PendCountsSaid : Prop := pendCountsRow.holds Try.pinned (OpenSpec.ofChange pendCountsSpec)

/-- ITS FALSE NEIGHBOUR: 'it returns false'. Refute it at one input. -/
def pendCountsWrong : ChangeSpec := { name := "pendCounts", fn := fun _ => fun
  | [d] => { results := [.lit (.bool false)], args := [d] }
  | _ => none }
def PendCountsWrongFalsely : Prop := pendCountsRow.holds Try.pinned (OpenSpec.ofChange pendCountsWrong)

/-- 'reveillelaw12.LevelAgain': WHATEVER THE INPUT: true; the input reads as it did. -/
def levelAgainSpec : ChangeSpec := { name := "levelAgain", fn := fun _ => fun
  | [d1, d2, d3] => { results := [.lit (.bool true)], args := [d1, d2, d3] }
  | _ => none }
def levelAgainRow : OpenClaim := { program := "ytnlpohcnlmdocaa", sum := "627825a27ea3f5e2740acf4ceb5cfc0bb3ae5b4bff9fd411871d948689e639e8", func := "reveille/reveillelaw12.LevelAgain", spec := "levelAgain", inPlace := ["internal/abi.NoEscape", "internal/bytealg.MakeNoZero"], unfollowed := true, recurses := true, apart := false }
def LevelAgainSaid : Prop := levelAgainRow.holds Try.pinned (OpenSpec.ofChange levelAgainSpec)

/-- ITS FALSE NEIGHBOUR: 'it returns false'. Refute it at one input. -/
def levelAgainWrong : ChangeSpec := { name := "levelAgain", fn := fun _ => fun
  | [d1, d2, d3] => { results := [.lit (.bool false)], args := [d1, d2, d3] }
  | _ => none }
def LevelAgainWrongFalsely : Prop := levelAgainRow.holds Try.pinned (OpenSpec.ofChange levelAgainWrong)

/-- 'reveillelaw12.LevelChain': WHATEVER THE INPUT: true; the input reads as it did. -/
def levelChainSpec : ChangeSpec := { name := "levelChain", fn := fun _ => fun
  | [d1, d2, d3] => { results := [.lit (.bool true)], args := [d1, d2, d3] }
  | _ => none }
def levelChainRow : OpenClaim := { program := "ytnlpohcnlmdocaa", sum := "627825a27ea3f5e2740acf4ceb5cfc0bb3ae5b4bff9fd411871d948689e639e8", func := "reveille/reveillelaw12.LevelChain", spec := "levelChain", inPlace := ["internal/abi.NoEscape", "internal/bytealg.MakeNoZero"], unfollowed := true, recurses := true, apart := false }
def LevelChainSaid : Prop := levelChainRow.holds Try.pinned (OpenSpec.ofChange levelChainSpec)

/-- ITS FALSE NEIGHBOUR: 'it returns false'. Refute it at one input. -/
def levelChainWrong : ChangeSpec := { name := "levelChain", fn := fun _ => fun
  | [d1, d2, d3] => { results := [.lit (.bool false)], args := [d1, d2, d3] }
  | _ => none }
def LevelChainWrongFalsely : Prop := levelChainRow.holds Try.pinned (OpenSpec.ofChange levelChainWrong)

/-- 'reveillelaw06.RecTurned': WHATEVER THE INPUT: true; the input reads as it did. -/
def recTurnedSpec : ChangeSpec := { name := "recTurned", fn := fun _ => fun
  | [d1, d2, d3] => { results := [.lit (.bool true)], args := [d1, d2, d3] }
  | _ => none }
def recTurnedRow : OpenClaim := { program := "ytnlpohcnlmdocaa", sum := "627825a27ea3f5e2740acf4ceb5cfc0bb3ae5b4bff9fd411871d948689e639e8", func := "reveille/reveillelaw06.RecTurned", spec := "recTurned", inPlace := ["internal/abi.NoEscape", "internal/bytealg.MakeNoZero"], unfollowed := true, recurses := true, apart := false }
def RecTurnedSaid : Prop := recTurnedRow.holds Try.pinned (OpenSpec.ofChange recTurnedSpec)

/-- ITS FALSE NEIGHBOUR: 'it returns false'. Refute it at one input. -/
def recTurnedWrong : ChangeSpec := { name := "recTurned", fn := fun _ => fun
  | [d1, d2, d3] => { results := [.lit (.bool false)], args := [d1, d2, d3] }
  | _ => none }
def RecTurnedWrongFalsely : Prop := recTurnedRow.holds Try.pinned (OpenSpec.ofChange recTurnedWrong)

/-- 'reveillelaw06.RecSame': WHATEVER THE INPUT: true; the input reads as it did. -/
def recSameSpec : ChangeSpec := { name := "recSame", fn := fun _ => fun
  | [d1, d2, d3] => { results := [.lit (.bool true)], args := [d1, d2, d3] }
  | _ => none }
def recSameRow : OpenClaim := { program := "ytnlpohcnlmdocaa", sum := "627825a27ea3f5e2740acf4ceb5cfc0bb3ae5b4bff9fd411871d948689e639e8", func := "reveille/reveillelaw06.RecSame", spec := "recSame", inPlace := ["internal/abi.NoEscape", "internal/bytealg.MakeNoZero"], unfollowed := true, recurses := true, apart := false }
def RecSameSaid : Prop := recSameRow.holds Try.pinned (OpenSpec.ofChange recSameSpec)

/-- ITS FALSE NEIGHBOUR: 'it returns false'. Refute it at one input. -/
def recSameWrong : ChangeSpec := { name := "recSame", fn := fun _ => fun
  | [d1, d2, d3] => { results := [.lit (.bool false)], args := [d1, d2, d3] }
  | _ => none }
def RecSameWrongFalsely : Prop := recSameRow.holds Try.pinned (OpenSpec.ofChange recSameWrong)

/- THE SECOND FORM. 'bulk': how many values and letters a reading holds, each counted each time it is reached (what is shared counts as often as it is met; a slice's spare places count too). A statement '..UptoSaid' is the law's where the arguments, and the package variables that the reading takes, are together of bulk at most 1048576: NARROWER than '..Said'. Prove '..Said' where nothing that the law and all that it calls make is longer than what came in: it says more and counts as full. Else prove '..UptoSaid'. A law counts once. -/
mutual
def uptoBulk {H : Type} : DataW H → Nat
  | .lit (.string bytes) => bytes.length + 1
  | .lit _ => 1
  | .nil => 1
  | .ptr d => uptoBulk d + 1
  | .slice elems spare => uptoBulkAll elems + uptoBulkAll spare + 1
  | .agg parts => uptoBulkAll parts + 1
  | .iface _ d => uptoBulk d + 1
  | .map entries => uptoBulkEntries entries + 1
  | .held _ => 1
def uptoBulkAll {H : Type} : List (DataW H) → Nat
  | [] => 0
  | d :: r => uptoBulk d + uptoBulkAll r
def uptoBulkEntries {H : Type} : List (Lit × DataW H) → Nat
  | [] => 0
  | x :: r => uptoBulkEntry x + uptoBulkEntries r
def uptoBulkEntry {H : Type} : Lit × DataW H → Nat
  | (.string bytes, d) => bytes.length + uptoBulk d + 1
  | (_, d) => uptoBulk d + 1
 end
def uptoSmall : (H : Type) → List (DataW H) → Bool := fun _ ds => decide (uptoBulkAll ds ≤ 1048576)
def OpenSpec.upto (s : _root_.Go.ChangeSpec) : _root_.Go.OpenSpec := { _root_.Go.OpenSpec.ofChange s with cond := some uptoSmall }

/-- 'reveillelaw12.LevelLaps', WHERE WHAT IT READS IS OF BULK AT MOST 1048576: true; the input reads as it did. -/
def levelLapsUptoRow : OpenClaim := { program := "ytnlpohcnlmdocaa", sum := "627825a27ea3f5e2740acf4ceb5cfc0bb3ae5b4bff9fd411871d948689e639e8", func := "reveille/reveillelaw12.LevelLaps", spec := "levelLaps", apart := false, narrowed := true }
def LevelLapsUptoSaid : Prop := levelLapsUptoRow.holds Try.pinned (OpenSpec.upto levelLapsSpec)

/-- 'reveillelaw17.PendCounts', WHERE WHAT IT READS IS OF BULK AT MOST 1048576: true; the input reads as it did. -/
def pendCountsUptoRow : OpenClaim := { program := "ytnlpohcnlmdocaa", sum := "627825a27ea3f5e2740acf4ceb5cfc0bb3ae5b4bff9fd411871d948689e639e8", func := "reveille/reveillelaw17.PendCounts", spec := "pendCounts", unfollowed := true, recurses := true, apart := false, narrowed := true }
def PendCountsUptoSaid : Prop := pendCountsUptoRow.holds Try.pinned (OpenSpec.upto pendCountsSpec)

/-- 'reveillelaw12.LevelAgain', WHERE WHAT IT READS IS OF BULK AT MOST 1048576: true; the input reads as it did. -/
def levelAgainUptoRow : OpenClaim := { program := "ytnlpohcnlmdocaa", sum := "627825a27ea3f5e2740acf4ceb5cfc0bb3ae5b4bff9fd411871d948689e639e8", func := "reveille/reveillelaw12.LevelAgain", spec := "levelAgain", inPlace := ["internal/abi.NoEscape", "internal/bytealg.MakeNoZero"], unfollowed := true, recurses := true, apart := false, narrowed := true }
def LevelAgainUptoSaid : Prop := levelAgainUptoRow.holds Try.pinned (OpenSpec.upto levelAgainSpec)

/-- 'reveillelaw12.LevelChain', WHERE WHAT IT READS IS OF BULK AT MOST 1048576: true; the input reads as it did. -/
def levelChainUptoRow : OpenClaim := { program := "ytnlpohcnlmdocaa", sum := "627825a27ea3f5e2740acf4ceb5cfc0bb3ae5b4bff9fd411871d948689e639e8", func := "reveille/reveillelaw12.LevelChain", spec := "levelChain", inPlace := ["internal/abi.NoEscape", "internal/bytealg.MakeNoZero"], unfollowed := true, recurses := true, apart := false, narrowed := true }
def LevelChainUptoSaid : Prop := levelChainUptoRow.holds Try.pinned (OpenSpec.upto levelChainSpec)

/-- 'reveillelaw06.RecTurned', WHERE WHAT IT READS IS OF BULK AT MOST 1048576: true; the input reads as it did. -/
def recTurnedUptoRow : OpenClaim := { program := "ytnlpohcnlmdocaa", sum := "627825a27ea3f5e2740acf4ceb5cfc0bb3ae5b4bff9fd411871d948689e639e8", func := "reveille/reveillelaw06.RecTurned", spec := "recTurned", inPlace := ["internal/abi.NoEscape", "internal/bytealg.MakeNoZero"], unfollowed := true, recurses := true, apart := false, narrowed := true }
def RecTurnedUptoSaid : Prop := recTurnedUptoRow.holds Try.pinned (OpenSpec.upto recTurnedSpec)

/-- 'reveillelaw06.RecSame', WHERE WHAT IT READS IS OF BULK AT MOST 1048576: true; the input reads as it did. -/
def recSameUptoRow : OpenClaim := { program := "ytnlpohcnlmdocaa", sum := "627825a27ea3f5e2740acf4ceb5cfc0bb3ae5b4bff9fd411871d948689e639e8", func := "reveille/reveillelaw06.RecSame", spec := "recSame", inPlace := ["internal/abi.NoEscape", "internal/bytealg.MakeNoZero"], unfollowed := true, recurses := true, apart := false, narrowed := true }
def RecSameUptoSaid : Prop := recSameUptoRow.holds Try.pinned (OpenSpec.upto recSameSpec)

end Rows
end Go.Proofs.Ytnlpohcnlmdocaa
