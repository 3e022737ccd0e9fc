/-
  No cell of these rows narrows 'for every input' (looked for: loops, veiled, ifaces, maps, wideKeys, modest, calm, conditions, laid).
  DERIVED. THE GIVEN ROWS OF THIS SEAT. 11 by the template 'for every input the law returns true; each argument reads behind the call as it read before'; 0 by the template 'total and deterministic' (their statements: YtbppeffcikphcaaTotals.lean).
  GIVEN WITH THE SEED: the statements are not yours to turn. If you find one false, say at which input.
  Laid BY PROGRAM, IN A SANDBOX (cutbox-rows.mjs): the forced cells as the released guide's own fill.sh prints them over the translation 198f896b5a2f96f4… (all of the seat's roots in one cut). By AI agents, Wed Nov 11 2026. No macro, syntax, notation, axiom, sorry.
-/
import Derived.Test.YtbppeffcikphcaaChecked
import GoSem.Claim
import GoSem.ClaimJoined
import GoSem.ClaimMapViews
import Derived.JoinedTies
import Derived.KernelRfl
namespace Go.Proofs.Ytbppeffcikphcaa
/- THE CELL 'sum', in the pinned program and in every row, IS THE sha256 OF THE DUMP (.gsa) THAT YtbppeffcikphcaaProg.lean LOADS. Nothing in Lean hashes anything: it is a label: what it is worth is what the hold of that sum in a sandbox is worth. -/
noncomputable def Try.pinned : Pinned := { name := "ytbppeffcikphcaa", sum := "198f896b5a2f96f4c8655f80a49b522f3ca105a470377c050f042083ff0f37d2", checked := Try.checked }
namespace Rows
def none {H : Type} : Left H := { results := [], args := [] }

/-- 'racewaylaw6.ResidualReach': WHATEVER THE INPUT: true; the input reads as it did. -/
def residualReachSpec : ChangeSpec := { name := "residualReach", fn := fun _ => fun
  | [d1, d2, d3, d4, d5, d6] => { results := [.lit (.bool true)], args := [d1, d2, d3, d4, d5, d6] }
  | _ => none }
def residualReachRow : OpenClaim := { program := "ytbppeffcikphcaa", sum := "198f896b5a2f96f4c8655f80a49b522f3ca105a470377c050f042083ff0f37d2", func := "raceway/racewaylaw6.ResidualReach", spec := "residualReach", unfollowed := true, recurses := true, apart := false }
def ResidualReachSaid : Prop := residualReachRow.holds Try.pinned (OpenSpec.ofChange residualReachSpec)

/-- ITS FALSE NEIGHBOUR: 'it returns false'. Refute it at one input. -/
def residualReachWrong : ChangeSpec := { name := "residualReach", fn := fun _ => fun
  | [d1, d2, d3, d4, d5, d6] => { results := [.lit (.bool false)], args := [d1, d2, d3, d4, d5, d6] }
  | _ => none }
def ResidualReachWrongFalsely : Prop := residualReachRow.holds Try.pinned (OpenSpec.ofChange residualReachWrong)

/-- 'racewaylaw7.LevelRooms': WHATEVER THE INPUT: true; the input reads as it did. -/
def levelRoomsSpec : ChangeSpec := { name := "levelRooms", fn := fun _ => fun
  | [d1, d2, d3, d4, d5, d6] => { results := [.lit (.bool true)], args := [d1, d2, d3, d4, d5, d6] }
  | _ => none }
def levelRoomsRow : OpenClaim := { program := "ytbppeffcikphcaa", sum := "198f896b5a2f96f4c8655f80a49b522f3ca105a470377c050f042083ff0f37d2", func := "raceway/racewaylaw7.LevelRooms", spec := "levelRooms", unfollowed := true, recurses := true, apart := false }
def LevelRoomsSaid : Prop := levelRoomsRow.holds Try.pinned (OpenSpec.ofChange levelRoomsSpec)

/-- ITS FALSE NEIGHBOUR: 'it returns false'. Refute it at one input. -/
def levelRoomsWrong : ChangeSpec := { name := "levelRooms", fn := fun _ => fun
  | [d1, d2, d3, d4, d5, d6] => { results := [.lit (.bool false)], args := [d1, d2, d3, d4, d5, d6] }
  | _ => none }
def LevelRoomsWrongFalsely : Prop := levelRoomsRow.holds Try.pinned (OpenSpec.ofChange levelRoomsWrong)

/-- 'racewaylaw7.LevelFew': WHATEVER THE INPUT: true; the input reads as it did. -/
def levelFewSpec : ChangeSpec := { name := "levelFew", fn := fun _ => fun
  | [d1, d2, d3, d4] => { results := [.lit (.bool true)], args := [d1, d2, d3, d4] }
  | _ => none }
def levelFewRow : OpenClaim := { program := "ytbppeffcikphcaa", sum := "198f896b5a2f96f4c8655f80a49b522f3ca105a470377c050f042083ff0f37d2", func := "raceway/racewaylaw7.LevelFew", spec := "levelFew", unfollowed := true, recurses := true, apart := false }
def LevelFewSaid : Prop := levelFewRow.holds Try.pinned (OpenSpec.ofChange levelFewSpec)

/-- ITS FALSE NEIGHBOUR: 'it returns false'. Refute it at one input. -/
def levelFewWrong : ChangeSpec := { name := "levelFew", fn := fun _ => fun
  | [d1, d2, d3, d4] => { results := [.lit (.bool false)], args := [d1, d2, d3, d4] }
  | _ => none }
def LevelFewWrongFalsely : Prop := levelFewRow.holds Try.pinned (OpenSpec.ofChange levelFewWrong)

/-- 'racewaylaw7.LevelChain': WHATEVER THE INPUT: true; the input reads as it did. -/
def levelChainSpec : ChangeSpec := { name := "levelChain", fn := fun _ => fun
  | [d1, d2] => { results := [.lit (.bool true)], args := [d1, d2] }
  | _ => none }
def levelChainRow : OpenClaim := { program := "ytbppeffcikphcaa", sum := "198f896b5a2f96f4c8655f80a49b522f3ca105a470377c050f042083ff0f37d2", func := "raceway/racewaylaw7.LevelChain", spec := "levelChain", unfollowed := true, recurses := true, apart := false }
def LevelChainSaid : Prop := levelChainRow.holds Try.pinned (OpenSpec.ofChange levelChainSpec)

/-- ITS FALSE NEIGHBOUR: 'it returns false'. Refute it at one input. -/
def levelChainWrong : ChangeSpec := { name := "levelChain", fn := fun _ => fun
  | [d1, d2] => { results := [.lit (.bool false)], args := [d1, d2] }
  | _ => none }
def LevelChainWrongFalsely : Prop := levelChainRow.holds Try.pinned (OpenSpec.ofChange levelChainWrong)

/-- 'racewaylaw6.ResidualSteps': WHATEVER THE INPUT: true; the input reads as it did. -/
def residualStepsSpec : ChangeSpec := { name := "residualSteps", fn := fun _ => fun
  | [d1, d2, d3, d4, d5, d6] => { results := [.lit (.bool true)], args := [d1, d2, d3, d4, d5, d6] }
  | _ => none }
def residualStepsRow : OpenClaim := { program := "ytbppeffcikphcaa", sum := "198f896b5a2f96f4c8655f80a49b522f3ca105a470377c050f042083ff0f37d2", func := "raceway/racewaylaw6.ResidualSteps", spec := "residualSteps", unfollowed := true, recurses := true, apart := false }
def ResidualStepsSaid : Prop := residualStepsRow.holds Try.pinned (OpenSpec.ofChange residualStepsSpec)

/-- ITS FALSE NEIGHBOUR: 'it returns false'. Refute it at one input. -/
def residualStepsWrong : ChangeSpec := { name := "residualSteps", fn := fun _ => fun
  | [d1, d2, d3, d4, d5, d6] => { results := [.lit (.bool false)], args := [d1, d2, d3, d4, d5, d6] }
  | _ => none }
def ResidualStepsWrongFalsely : Prop := residualStepsRow.holds Try.pinned (OpenSpec.ofChange residualStepsWrong)

/-- 'racewaylaw6.ResidualPushes': WHATEVER THE INPUT: true; the input reads as it did. -/
def residualPushesSpec : ChangeSpec := { name := "residualPushes", fn := fun _ => fun
  | [d1, d2, d3, d4, d5] => { results := [.lit (.bool true)], args := [d1, d2, d3, d4, d5] }
  | _ => none }
def residualPushesRow : OpenClaim := { program := "ytbppeffcikphcaa", sum := "198f896b5a2f96f4c8655f80a49b522f3ca105a470377c050f042083ff0f37d2", func := "raceway/racewaylaw6.ResidualPushes", spec := "residualPushes", unfollowed := true, recurses := true, apart := false }
def ResidualPushesSaid : Prop := residualPushesRow.holds Try.pinned (OpenSpec.ofChange residualPushesSpec)

/-- ITS FALSE NEIGHBOUR: 'it returns false'. Refute it at one input. -/
def residualPushesWrong : ChangeSpec := { name := "residualPushes", fn := fun _ => fun
  | [d1, d2, d3, d4, d5] => { results := [.lit (.bool false)], args := [d1, d2, d3, d4, d5] }
  | _ => none }
def ResidualPushesWrongFalsely : Prop := residualPushesRow.holds Try.pinned (OpenSpec.ofChange residualPushesWrong)

/-- 'racewaylaw7.LevelTells': WHATEVER THE INPUT: true; the input reads as it did. -/
def levelTellsSpec : ChangeSpec := { name := "levelTells", fn := fun _ => fun
  | [d1, d2, d3] => { results := [.lit (.bool true)], args := [d1, d2, d3] }
  | _ => none }
def levelTellsRow : OpenClaim := { program := "ytbppeffcikphcaa", sum := "198f896b5a2f96f4c8655f80a49b522f3ca105a470377c050f042083ff0f37d2", func := "raceway/racewaylaw7.LevelTells", spec := "levelTells", unfollowed := true, recurses := true, apart := false }
def LevelTellsSaid : Prop := levelTellsRow.holds Try.pinned (OpenSpec.ofChange levelTellsSpec)

/-- ITS FALSE NEIGHBOUR: 'it returns false'. Refute it at one input. -/
def levelTellsWrong : ChangeSpec := { name := "levelTells", fn := fun _ => fun
  | [d1, d2, d3] => { results := [.lit (.bool false)], args := [d1, d2, d3] }
  | _ => none }
def LevelTellsWrongFalsely : Prop := levelTellsRow.holds Try.pinned (OpenSpec.ofChange levelTellsWrong)

/-- 'racewaylaw7.LevelWalks': WHATEVER THE INPUT: true; the input reads as it did. -/
def levelWalksSpec : ChangeSpec := { name := "levelWalks", fn := fun _ => fun
  | [d1, d2, d3, d4, d5] => { results := [.lit (.bool true)], args := [d1, d2, d3, d4, d5] }
  | _ => none }
def levelWalksRow : OpenClaim := { program := "ytbppeffcikphcaa", sum := "198f896b5a2f96f4c8655f80a49b522f3ca105a470377c050f042083ff0f37d2", func := "raceway/racewaylaw7.LevelWalks", spec := "levelWalks", unfollowed := true, recurses := true, apart := false }
def LevelWalksSaid : Prop := levelWalksRow.holds Try.pinned (OpenSpec.ofChange levelWalksSpec)

/-- ITS FALSE NEIGHBOUR: 'it returns false'. Refute it at one input. -/
def levelWalksWrong : ChangeSpec := { name := "levelWalks", fn := fun _ => fun
  | [d1, d2, d3, d4, d5] => { results := [.lit (.bool false)], args := [d1, d2, d3, d4, d5] }
  | _ => none }
def LevelWalksWrongFalsely : Prop := levelWalksRow.holds Try.pinned (OpenSpec.ofChange levelWalksWrong)

/-- 'racewaylaw6.ResidualBack': WHATEVER THE INPUT: true; the input reads as it did. -/
def residualBackSpec : ChangeSpec := { name := "residualBack", fn := fun _ => fun
  | [d] => { results := [.lit (.bool true)], args := [d] }
  | _ => none }
def residualBackRow : OpenClaim := { program := "ytbppeffcikphcaa", sum := "198f896b5a2f96f4c8655f80a49b522f3ca105a470377c050f042083ff0f37d2", func := "raceway/racewaylaw6.ResidualBack", spec := "residualBack", unfollowed := true, recurses := true, apart := false }
def ResidualBackSaid : Prop := residualBackRow.holds Try.pinned (OpenSpec.ofChange residualBackSpec)

/-- ITS FALSE NEIGHBOUR: 'it returns false'. Refute it at one input. -/
def residualBackWrong : ChangeSpec := { name := "residualBack", fn := fun _ => fun
  | [d] => { results := [.lit (.bool false)], args := [d] }
  | _ => none }
def ResidualBackWrongFalsely : Prop := residualBackRow.holds Try.pinned (OpenSpec.ofChange residualBackWrong)

/-- 'racewaylaw6.ResidualTells': WHATEVER THE INPUT: true; the input reads as it did. -/
def residualTellsSpec : ChangeSpec := { name := "residualTells", fn := fun _ => fun
  | [d1, d2, d3, d4, d5] => { results := [.lit (.bool true)], args := [d1, d2, d3, d4, d5] }
  | _ => none }
def residualTellsRow : OpenClaim := { program := "ytbppeffcikphcaa", sum := "198f896b5a2f96f4c8655f80a49b522f3ca105a470377c050f042083ff0f37d2", func := "raceway/racewaylaw6.ResidualTells", spec := "residualTells", unfollowed := true, recurses := true, apart := false }
def ResidualTellsSaid : Prop := residualTellsRow.holds Try.pinned (OpenSpec.ofChange residualTellsSpec)

/-- ITS FALSE NEIGHBOUR: 'it returns false'. Refute it at one input. -/
def residualTellsWrong : ChangeSpec := { name := "residualTells", fn := fun _ => fun
  | [d1, d2, d3, d4, d5] => { results := [.lit (.bool false)], args := [d1, d2, d3, d4, d5] }
  | _ => none }
def ResidualTellsWrongFalsely : Prop := residualTellsRow.holds Try.pinned (OpenSpec.ofChange residualTellsWrong)

/-- 'racewaylaw7.LevelTurned': WHATEVER THE INPUT: true; the input reads as it did. -/
def levelTurnedSpec : ChangeSpec := { name := "levelTurned", fn := fun _ => fun
  | [d1, d2, d3, d4, d5] => { results := [.lit (.bool true)], args := [d1, d2, d3, d4, d5] }
  | _ => none }
def levelTurnedRow : OpenClaim := { program := "ytbppeffcikphcaa", sum := "198f896b5a2f96f4c8655f80a49b522f3ca105a470377c050f042083ff0f37d2", func := "raceway/racewaylaw7.LevelTurned", spec := "levelTurned", unfollowed := true, recurses := true, apart := false }
def LevelTurnedSaid : Prop := levelTurnedRow.holds Try.pinned (OpenSpec.ofChange levelTurnedSpec)

/-- ITS FALSE NEIGHBOUR: 'it returns false'. Refute it at one input. -/
def levelTurnedWrong : ChangeSpec := { name := "levelTurned", fn := fun _ => fun
  | [d1, d2, d3, d4, d5] => { results := [.lit (.bool false)], args := [d1, d2, d3, d4, d5] }
  | _ => none }
def LevelTurnedWrongFalsely : Prop := levelTurnedRow.holds Try.pinned (OpenSpec.ofChange levelTurnedWrong)

/- THE SECOND FORM. 'bulk': how many values and letters a reading holds, each counted each time it is reached (what is shared counts as often as it is met; a slice's spare places count too). A statement '..UptoSaid' is the law's where the arguments, and the package variables that the reading takes, are together of bulk at most 1048576: NARROWER than '..Said'. Prove '..Said' where nothing that the law and all that it calls make is longer than what came in: it says more and counts as full. Else prove '..UptoSaid'. A law counts once. -/
mutual
def uptoBulk {H : Type} : DataW H → Nat
  | .lit (.string bytes) => bytes.length + 1
  | .lit _ => 1
  | .nil => 1
  | .ptr d => uptoBulk d + 1
  | .slice elems spare => uptoBulkAll elems + uptoBulkAll spare + 1
  | .agg parts => uptoBulkAll parts + 1
  | .iface _ d => uptoBulk d + 1
  | .map entries => uptoBulkEntries entries + 1
  | .held _ => 1
def uptoBulkAll {H : Type} : List (DataW H) → Nat
  | [] => 0
  | d :: r => uptoBulk d + uptoBulkAll r
def uptoBulkEntries {H : Type} : List (Lit × DataW H) → Nat
  | [] => 0
  | x :: r => uptoBulkEntry x + uptoBulkEntries r
def uptoBulkEntry {H : Type} : Lit × DataW H → Nat
  | (.string bytes, d) => bytes.length + uptoBulk d + 1
  | (_, d) => uptoBulk d + 1
 end
def uptoSmall : (H : Type) → List (DataW H) → Bool := fun _ ds => decide (uptoBulkAll ds ≤ 1048576)
def OpenSpec.upto (s : _root_.Go.ChangeSpec) : _root_.Go.OpenSpec := { _root_.Go.OpenSpec.ofChange s with cond := some uptoSmall }

/-- 'racewaylaw6.ResidualReach', WHERE WHAT IT READS IS OF BULK AT MOST 1048576: true; the input reads as it did. -/
def residualReachUptoRow : OpenClaim := { program := "ytbppeffcikphcaa", sum := "198f896b5a2f96f4c8655f80a49b522f3ca105a470377c050f042083ff0f37d2", func := "raceway/racewaylaw6.ResidualReach", spec := "residualReach", unfollowed := true, recurses := true, apart := false, narrowed := true }
def ResidualReachUptoSaid : Prop := residualReachUptoRow.holds Try.pinned (OpenSpec.upto residualReachSpec)

/-- 'racewaylaw7.LevelRooms', WHERE WHAT IT READS IS OF BULK AT MOST 1048576: true; the input reads as it did. -/
def levelRoomsUptoRow : OpenClaim := { program := "ytbppeffcikphcaa", sum := "198f896b5a2f96f4c8655f80a49b522f3ca105a470377c050f042083ff0f37d2", func := "raceway/racewaylaw7.LevelRooms", spec := "levelRooms", unfollowed := true, recurses := true, apart := false, narrowed := true }
def LevelRoomsUptoSaid : Prop := levelRoomsUptoRow.holds Try.pinned (OpenSpec.upto levelRoomsSpec)

/-- 'racewaylaw7.LevelFew', WHERE WHAT IT READS IS OF BULK AT MOST 1048576: true; the input reads as it did. -/
def levelFewUptoRow : OpenClaim := { program := "ytbppeffcikphcaa", sum := "198f896b5a2f96f4c8655f80a49b522f3ca105a470377c050f042083ff0f37d2", func := "raceway/racewaylaw7.LevelFew", spec := "levelFew", unfollowed := true, recurses := true, apart := false, narrowed := true }
def LevelFewUptoSaid : Prop := levelFewUptoRow.holds Try.pinned (OpenSpec.upto levelFewSpec)

/-- 'racewaylaw7.LevelChain', WHERE WHAT IT READS IS OF BULK AT MOST 1048576: true; the input reads as it did. -/
def levelChainUptoRow : OpenClaim := { program := "ytbppeffcikphcaa", sum := "198f896b5a2f96f4c8655f80a49b522f3ca105a470377c050f042083ff0f37d2", func := "raceway/racewaylaw7.LevelChain", spec := "levelChain", unfollowed := true, recurses := true, apart := false, narrowed := true }
def LevelChainUptoSaid : Prop := levelChainUptoRow.holds Try.pinned (OpenSpec.upto levelChainSpec)

/-- 'racewaylaw6.ResidualSteps', WHERE WHAT IT READS IS OF BULK AT MOST 1048576: true; the input reads as it did. -/
def residualStepsUptoRow : OpenClaim := { program := "ytbppeffcikphcaa", sum := "198f896b5a2f96f4c8655f80a49b522f3ca105a470377c050f042083ff0f37d2", func := "raceway/racewaylaw6.ResidualSteps", spec := "residualSteps", unfollowed := true, recurses := true, apart := false, narrowed := true }
def ResidualStepsUptoSaid : Prop := residualStepsUptoRow.holds Try.pinned (OpenSpec.upto residualStepsSpec)

/-- 'racewaylaw6.ResidualPushes', WHERE WHAT IT READS IS OF BULK AT MOST 1048576: true; the input reads as it did. -/
def residualPushesUptoRow : OpenClaim := { program := "ytbppeffcikphcaa", sum := "198f896b5a2f96f4c8655f80a49b522f3ca105a470377c050f042083ff0f37d2", func := "raceway/racewaylaw6.ResidualPushes", spec := "residualPushes", unfollowed := true, recurses := true, apart := false, narrowed := true }
def ResidualPushesUptoSaid : Prop := residualPushesUptoRow.holds Try.pinned (OpenSpec.upto residualPushesSpec)

/-- 'racewaylaw7.LevelTells', WHERE WHAT IT READS IS OF BULK AT MOST 1048576: true; the input reads as it did. -/
def levelTellsUptoRow : OpenClaim := { program := "ytbppeffcikphcaa", sum := "198f896b5a2f96f4c8655f80a49b522f3ca105a470377c050f042083ff0f37d2", func := "raceway/racewaylaw7.LevelTells", spec := "levelTells", unfollowed := true, recurses := true, apart := false, narrowed := true }
def LevelTellsUptoSaid : Prop := levelTellsUptoRow.holds Try.pinned (OpenSpec.upto levelTellsSpec)

/-- 'racewaylaw7.LevelWalks', WHERE WHAT IT READS IS OF BULK AT MOST 1048576: true; the input reads as it did. -/
def levelWalksUptoRow : OpenClaim := { program := "ytbppeffcikphcaa", sum := "198f896b5a2f96f4c8655f80a49b522f3ca105a470377c050f042083ff0f37d2", func := "raceway/racewaylaw7.LevelWalks", spec := "levelWalks", unfollowed := true, recurses := true, apart := false, narrowed := true }
def LevelWalksUptoSaid : Prop := levelWalksUptoRow.holds Try.pinned (OpenSpec.upto levelWalksSpec)

/-- 'racewaylaw6.ResidualBack', WHERE WHAT IT READS IS OF BULK AT MOST 1048576: true; the input reads as it did. -/
def residualBackUptoRow : OpenClaim := { program := "ytbppeffcikphcaa", sum := "198f896b5a2f96f4c8655f80a49b522f3ca105a470377c050f042083ff0f37d2", func := "raceway/racewaylaw6.ResidualBack", spec := "residualBack", unfollowed := true, recurses := true, apart := false, narrowed := true }
def ResidualBackUptoSaid : Prop := residualBackUptoRow.holds Try.pinned (OpenSpec.upto residualBackSpec)

/-- 'racewaylaw6.ResidualTells', WHERE WHAT IT READS IS OF BULK AT MOST 1048576: true; the input reads as it did. -/
def residualTellsUptoRow : OpenClaim := { program := "ytbppeffcikphcaa", sum := "198f896b5a2f96f4c8655f80a49b522f3ca105a470377c050f042083ff0f37d2", func := "raceway/racewaylaw6.ResidualTells", spec := "residualTells", unfollowed := true, recurses := true, apart := false, narrowed := true }
def ResidualTellsUptoSaid : Prop := residualTellsUptoRow.holds Try.pinned (OpenSpec.upto residualTellsSpec)

/-- 'racewaylaw7.LevelTurned', WHERE WHAT IT READS IS OF BULK AT MOST 1048576: true; the input reads as it did. -/
def levelTurnedUptoRow : OpenClaim := { program := "ytbppeffcikphcaa", sum := "198f896b5a2f96f4c8655f80a49b522f3ca105a470377c050f042083ff0f37d2", func := "raceway/racewaylaw7.LevelTurned", spec := "levelTurned", unfollowed := true, recurses := true, apart := false, narrowed := true }
def LevelTurnedUptoSaid : Prop := levelTurnedUptoRow.holds Try.pinned (OpenSpec.upto levelTurnedSpec)

end Rows
end Go.Proofs.Ytbppeffcikphcaa
