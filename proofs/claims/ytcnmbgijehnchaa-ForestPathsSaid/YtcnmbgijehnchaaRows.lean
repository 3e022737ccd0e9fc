/-
  No cell of these rows narrows 'for every input' (looked for: loops, veiled, ifaces, maps, wideKeys, modest, calm, conditions, laid).
  DERIVED. THE GIVEN ROWS OF THIS SEAT. 9 by the template 'for every input the law returns true; each argument reads behind the call as it read before'; 0 by the template 'total and deterministic' (their statements: YtcnmbgijehnchaaTotals.lean).
  GIVEN WITH THE SEED: the statements are not yours to turn. If you find one false, say at which input.
  Laid BY PROGRAM, IN A SANDBOX (cutbox-rows.mjs): the forced cells as the released guide's own fill.sh prints them over the translation 8654af9f2fcbdda7… (all of the seat's roots in one cut). By AI agents, Wed Nov 11 2026. No macro, syntax, notation, axiom, sorry.
-/
import Derived.Test.YtcnmbgijehnchaaChecked
import GoSem.Claim
import GoSem.ClaimJoined
import GoSem.ClaimMapViews
import Derived.JoinedTies
import Derived.KernelRfl
namespace Go.Proofs.Ytcnmbgijehnchaa
/- THE CELL 'sum', in the pinned program and in every row, IS THE sha256 OF THE DUMP (.gsa) THAT YtcnmbgijehnchaaProg.lean LOADS. Nothing in Lean hashes anything: it is a label: what it is worth is what the hold of that sum in a sandbox is worth. -/
noncomputable def Try.pinned : Pinned := { name := "ytcnmbgijehnchaa", sum := "8654af9f2fcbdda75092fac412090d9ccdf443b37201c81686c59970fb8d59da", checked := Try.checked }
namespace Rows
def none {H : Type} : Left H := { results := [], args := [] }

/-- 'racewaylaw9.SplayLeast': WHATEVER THE INPUT: true; the input reads as it did. -/
def splayLeastSpec : ChangeSpec := { name := "splayLeast", fn := fun _ => fun
  | [d] => { results := [.lit (.bool true)], args := [d] }
  | _ => none }
def splayLeastRow : OpenClaim := { program := "ytcnmbgijehnchaa", sum := "8654af9f2fcbdda75092fac412090d9ccdf443b37201c81686c59970fb8d59da", func := "raceway/racewaylaw9.SplayLeast", spec := "splayLeast", unfollowed := true, recurses := true, apart := false }
def SplayLeastSaid : Prop := splayLeastRow.holds Try.pinned (OpenSpec.ofChange splayLeastSpec)

/-- ITS FALSE NEIGHBOUR: 'it returns false'. Refute it at one input. -/
def splayLeastWrong : ChangeSpec := { name := "splayLeast", fn := fun _ => fun
  | [d] => { results := [.lit (.bool false)], args := [d] }
  | _ => none }
def SplayLeastWrongFalsely : Prop := splayLeastRow.holds Try.pinned (OpenSpec.ofChange splayLeastWrong)

/-- 'racewaylaw9.SplayTurns': WHATEVER THE INPUT: true; the input reads as it did. -/
def splayTurnsSpec : ChangeSpec := { name := "splayTurns", fn := fun _ => fun
  | [d1, d2] => { results := [.lit (.bool true)], args := [d1, d2] }
  | _ => none }
def splayTurnsRow : OpenClaim := { program := "ytcnmbgijehnchaa", sum := "8654af9f2fcbdda75092fac412090d9ccdf443b37201c81686c59970fb8d59da", func := "raceway/racewaylaw9.SplayTurns", spec := "splayTurns", unfollowed := true, recurses := true, apart := false }
def SplayTurnsSaid : Prop := splayTurnsRow.holds Try.pinned (OpenSpec.ofChange splayTurnsSpec)

/-- ITS FALSE NEIGHBOUR: 'it returns false'. Refute it at one input. -/
def splayTurnsWrong : ChangeSpec := { name := "splayTurns", fn := fun _ => fun
  | [d1, d2] => { results := [.lit (.bool false)], args := [d1, d2] }
  | _ => none }
def SplayTurnsWrongFalsely : Prop := splayTurnsRow.holds Try.pinned (OpenSpec.ofChange splayTurnsWrong)

/-- 'racewaylaw9.SplaySorts': WHATEVER THE INPUT: true; the input reads as it did. -/
def splaySortsSpec : ChangeSpec := { name := "splaySorts", fn := fun _ => fun
  | [d1, d2] => { results := [.lit (.bool true)], args := [d1, d2] }
  | _ => none }
def splaySortsRow : OpenClaim := { program := "ytcnmbgijehnchaa", sum := "8654af9f2fcbdda75092fac412090d9ccdf443b37201c81686c59970fb8d59da", func := "raceway/racewaylaw9.SplaySorts", spec := "splaySorts", unfollowed := true, recurses := true, apart := false }
def SplaySortsSaid : Prop := splaySortsRow.holds Try.pinned (OpenSpec.ofChange splaySortsSpec)

/-- ITS FALSE NEIGHBOUR: 'it returns false'. Refute it at one input. -/
def splaySortsWrong : ChangeSpec := { name := "splaySorts", fn := fun _ => fun
  | [d1, d2] => { results := [.lit (.bool false)], args := [d1, d2] }
  | _ => none }
def SplaySortsWrongFalsely : Prop := splaySortsRow.holds Try.pinned (OpenSpec.ofChange splaySortsWrong)

/-- 'racewaylaw9.SplayBack': WHATEVER THE INPUT: true; the input reads as it did. -/
def splayBackSpec : ChangeSpec := { name := "splayBack", fn := fun _ => fun
  | [d1, d2, d3, d4] => { results := [.lit (.bool true)], args := [d1, d2, d3, d4] }
  | _ => none }
def splayBackRow : OpenClaim := { program := "ytcnmbgijehnchaa", sum := "8654af9f2fcbdda75092fac412090d9ccdf443b37201c81686c59970fb8d59da", func := "raceway/racewaylaw9.SplayBack", spec := "splayBack", unfollowed := true, recurses := true, apart := false }
def SplayBackSaid : Prop := splayBackRow.holds Try.pinned (OpenSpec.ofChange splayBackSpec)

/-- ITS FALSE NEIGHBOUR: 'it returns false'. Refute it at one input. -/
def splayBackWrong : ChangeSpec := { name := "splayBack", fn := fun _ => fun
  | [d1, d2, d3, d4] => { results := [.lit (.bool false)], args := [d1, d2, d3, d4] }
  | _ => none }
def SplayBackWrongFalsely : Prop := splayBackRow.holds Try.pinned (OpenSpec.ofChange splayBackWrong)

/-- 'racewaylaw10.ForestCuts': WHATEVER THE INPUT: true; the input reads as it did. -/
def forestCutsSpec : ChangeSpec := { name := "forestCuts", fn := fun _ => fun
  | [d1, d2] => { results := [.lit (.bool true)], args := [d1, d2] }
  | _ => none }
def forestCutsRow : OpenClaim := { program := "ytcnmbgijehnchaa", sum := "8654af9f2fcbdda75092fac412090d9ccdf443b37201c81686c59970fb8d59da", func := "raceway/racewaylaw10.ForestCuts", spec := "forestCuts", unfollowed := true, recurses := true, apart := false }
def ForestCutsSaid : Prop := forestCutsRow.holds Try.pinned (OpenSpec.ofChange forestCutsSpec)

/-- ITS FALSE NEIGHBOUR: 'it returns false'. Refute it at one input. -/
def forestCutsWrong : ChangeSpec := { name := "forestCuts", fn := fun _ => fun
  | [d1, d2] => { results := [.lit (.bool false)], args := [d1, d2] }
  | _ => none }
def ForestCutsWrongFalsely : Prop := forestCutsRow.holds Try.pinned (OpenSpec.ofChange forestCutsWrong)

/-- 'racewaylaw10.ForestChain': WHATEVER THE INPUT: true; the input reads as it did. -/
def forestChainSpec : ChangeSpec := { name := "forestChain", fn := fun _ => fun
  | [d1, d2] => { results := [.lit (.bool true)], args := [d1, d2] }
  | _ => none }
def forestChainRow : OpenClaim := { program := "ytcnmbgijehnchaa", sum := "8654af9f2fcbdda75092fac412090d9ccdf443b37201c81686c59970fb8d59da", func := "raceway/racewaylaw10.ForestChain", spec := "forestChain", unfollowed := true, recurses := true, apart := false }
def ForestChainSaid : Prop := forestChainRow.holds Try.pinned (OpenSpec.ofChange forestChainSpec)

/-- ITS FALSE NEIGHBOUR: 'it returns false'. Refute it at one input. -/
def forestChainWrong : ChangeSpec := { name := "forestChain", fn := fun _ => fun
  | [d1, d2] => { results := [.lit (.bool false)], args := [d1, d2] }
  | _ => none }
def ForestChainWrongFalsely : Prop := forestChainRow.holds Try.pinned (OpenSpec.ofChange forestChainWrong)

/-- 'racewaylaw10.ForestBack': WHATEVER THE INPUT: true; the input reads as it did. -/
def forestBackSpec : ChangeSpec := { name := "forestBack", fn := fun _ => fun
  | [d1, d2, d3, d4] => { results := [.lit (.bool true)], args := [d1, d2, d3, d4] }
  | _ => none }
def forestBackRow : OpenClaim := { program := "ytcnmbgijehnchaa", sum := "8654af9f2fcbdda75092fac412090d9ccdf443b37201c81686c59970fb8d59da", func := "raceway/racewaylaw10.ForestBack", spec := "forestBack", unfollowed := true, recurses := true, apart := false }
def ForestBackSaid : Prop := forestBackRow.holds Try.pinned (OpenSpec.ofChange forestBackSpec)

/-- ITS FALSE NEIGHBOUR: 'it returns false'. Refute it at one input. -/
def forestBackWrong : ChangeSpec := { name := "forestBack", fn := fun _ => fun
  | [d1, d2, d3, d4] => { results := [.lit (.bool false)], args := [d1, d2, d3, d4] }
  | _ => none }
def ForestBackWrongFalsely : Prop := forestBackRow.holds Try.pinned (OpenSpec.ofChange forestBackWrong)

/-- 'racewaylaw10.ForestStar': WHATEVER THE INPUT: true; the input reads as it did. -/
def forestStarSpec : ChangeSpec := { name := "forestStar", fn := fun _ => fun
  | [d1, d2] => { results := [.lit (.bool true)], args := [d1, d2] }
  | _ => none }
def forestStarRow : OpenClaim := { program := "ytcnmbgijehnchaa", sum := "8654af9f2fcbdda75092fac412090d9ccdf443b37201c81686c59970fb8d59da", func := "raceway/racewaylaw10.ForestStar", spec := "forestStar", unfollowed := true, recurses := true, apart := false }
def ForestStarSaid : Prop := forestStarRow.holds Try.pinned (OpenSpec.ofChange forestStarSpec)

/-- ITS FALSE NEIGHBOUR: 'it returns false'. Refute it at one input. -/
def forestStarWrong : ChangeSpec := { name := "forestStar", fn := fun _ => fun
  | [d1, d2] => { results := [.lit (.bool false)], args := [d1, d2] }
  | _ => none }
def ForestStarWrongFalsely : Prop := forestStarRow.holds Try.pinned (OpenSpec.ofChange forestStarWrong)

/-- 'racewaylaw10.ForestPaths': WHATEVER THE INPUT: true; the input reads as it did. -/
def forestPathsSpec : ChangeSpec := { name := "forestPaths", fn := fun _ => fun
  | [d1, d2, d3, d4] => { results := [.lit (.bool true)], args := [d1, d2, d3, d4] }
  | _ => none }
def forestPathsRow : OpenClaim := { program := "ytcnmbgijehnchaa", sum := "8654af9f2fcbdda75092fac412090d9ccdf443b37201c81686c59970fb8d59da", func := "raceway/racewaylaw10.ForestPaths", spec := "forestPaths", unfollowed := true, recurses := true, apart := false }
def ForestPathsSaid : Prop := forestPathsRow.holds Try.pinned (OpenSpec.ofChange forestPathsSpec)

/-- ITS FALSE NEIGHBOUR: 'it returns false'. Refute it at one input. -/
def forestPathsWrong : ChangeSpec := { name := "forestPaths", fn := fun _ => fun
  | [d1, d2, d3, d4] => { results := [.lit (.bool false)], args := [d1, d2, d3, d4] }
  | _ => none }
def ForestPathsWrongFalsely : Prop := forestPathsRow.holds Try.pinned (OpenSpec.ofChange forestPathsWrong)

/- THE SECOND FORM. 'bulk': how many values and letters a reading holds, each counted each time it is reached (what is shared counts as often as it is met; a slice's spare places count too). A statement '..UptoSaid' is the law's where the arguments, and the package variables that the reading takes, are together of bulk at most 1048576: NARROWER than '..Said'. Prove '..Said' where nothing that the law and all that it calls make is longer than what came in: it says more and counts as full. Else prove '..UptoSaid'. A law counts once. -/
mutual
def uptoBulk {H : Type} : DataW H → Nat
  | .lit (.string bytes) => bytes.length + 1
  | .lit _ => 1
  | .nil => 1
  | .ptr d => uptoBulk d + 1
  | .slice elems spare => uptoBulkAll elems + uptoBulkAll spare + 1
  | .agg parts => uptoBulkAll parts + 1
  | .iface _ d => uptoBulk d + 1
  | .map entries => uptoBulkEntries entries + 1
  | .held _ => 1
def uptoBulkAll {H : Type} : List (DataW H) → Nat
  | [] => 0
  | d :: r => uptoBulk d + uptoBulkAll r
def uptoBulkEntries {H : Type} : List (Lit × DataW H) → Nat
  | [] => 0
  | x :: r => uptoBulkEntry x + uptoBulkEntries r
def uptoBulkEntry {H : Type} : Lit × DataW H → Nat
  | (.string bytes, d) => bytes.length + uptoBulk d + 1
  | (_, d) => uptoBulk d + 1
 end
def uptoSmall : (H : Type) → List (DataW H) → Bool := fun _ ds => decide (uptoBulkAll ds ≤ 1048576)
def OpenSpec.upto (s : _root_.Go.ChangeSpec) : _root_.Go.OpenSpec := { _root_.Go.OpenSpec.ofChange s with cond := some uptoSmall }

/-- 'racewaylaw9.SplayLeast', WHERE WHAT IT READS IS OF BULK AT MOST 1048576: true; the input reads as it did. -/
def splayLeastUptoRow : OpenClaim := { program := "ytcnmbgijehnchaa", sum := "8654af9f2fcbdda75092fac412090d9ccdf443b37201c81686c59970fb8d59da", func := "raceway/racewaylaw9.SplayLeast", spec := "splayLeast", unfollowed := true, recurses := true, apart := false, narrowed := true }
def SplayLeastUptoSaid : Prop := splayLeastUptoRow.holds Try.pinned (OpenSpec.upto splayLeastSpec)

/-- 'racewaylaw9.SplayTurns', WHERE WHAT IT READS IS OF BULK AT MOST 1048576: true; the input reads as it did. -/
def splayTurnsUptoRow : OpenClaim := { program := "ytcnmbgijehnchaa", sum := "8654af9f2fcbdda75092fac412090d9ccdf443b37201c81686c59970fb8d59da", func := "raceway/racewaylaw9.SplayTurns", spec := "splayTurns", unfollowed := true, recurses := true, apart := false, narrowed := true }
def SplayTurnsUptoSaid : Prop := splayTurnsUptoRow.holds Try.pinned (OpenSpec.upto splayTurnsSpec)

/-- 'racewaylaw9.SplaySorts', WHERE WHAT IT READS IS OF BULK AT MOST 1048576: true; the input reads as it did. -/
def splaySortsUptoRow : OpenClaim := { program := "ytcnmbgijehnchaa", sum := "8654af9f2fcbdda75092fac412090d9ccdf443b37201c81686c59970fb8d59da", func := "raceway/racewaylaw9.SplaySorts", spec := "splaySorts", unfollowed := true, recurses := true, apart := false, narrowed := true }
def SplaySortsUptoSaid : Prop := splaySortsUptoRow.holds Try.pinned (OpenSpec.upto splaySortsSpec)

/-- 'racewaylaw9.SplayBack', WHERE WHAT IT READS IS OF BULK AT MOST 1048576: true; the input reads as it did. -/
def splayBackUptoRow : OpenClaim := { program := "ytcnmbgijehnchaa", sum := "8654af9f2fcbdda75092fac412090d9ccdf443b37201c81686c59970fb8d59da", func := "raceway/racewaylaw9.SplayBack", spec := "splayBack", unfollowed := true, recurses := true, apart := false, narrowed := true }
def SplayBackUptoSaid : Prop := splayBackUptoRow.holds Try.pinned (OpenSpec.upto splayBackSpec)

/-- 'racewaylaw10.ForestCuts', WHERE WHAT IT READS IS OF BULK AT MOST 1048576: true; the input reads as it did. -/
def forestCutsUptoRow : OpenClaim := { program := "ytcnmbgijehnchaa", sum := "8654af9f2fcbdda75092fac412090d9ccdf443b37201c81686c59970fb8d59da", func := "raceway/racewaylaw10.ForestCuts", spec := "forestCuts", unfollowed := true, recurses := true, apart := false, narrowed := true }
def ForestCutsUptoSaid : Prop := forestCutsUptoRow.holds Try.pinned (OpenSpec.upto forestCutsSpec)

/-- 'racewaylaw10.ForestChain', WHERE WHAT IT READS IS OF BULK AT MOST 1048576: true; the input reads as it did. -/
def forestChainUptoRow : OpenClaim := { program := "ytcnmbgijehnchaa", sum := "8654af9f2fcbdda75092fac412090d9ccdf443b37201c81686c59970fb8d59da", func := "raceway/racewaylaw10.ForestChain", spec := "forestChain", unfollowed := true, recurses := true, apart := false, narrowed := true }
def ForestChainUptoSaid : Prop := forestChainUptoRow.holds Try.pinned (OpenSpec.upto forestChainSpec)

/-- 'racewaylaw10.ForestBack', WHERE WHAT IT READS IS OF BULK AT MOST 1048576: true; the input reads as it did. -/
def forestBackUptoRow : OpenClaim := { program := "ytcnmbgijehnchaa", sum := "8654af9f2fcbdda75092fac412090d9ccdf443b37201c81686c59970fb8d59da", func := "raceway/racewaylaw10.ForestBack", spec := "forestBack", unfollowed := true, recurses := true, apart := false, narrowed := true }
def ForestBackUptoSaid : Prop := forestBackUptoRow.holds Try.pinned (OpenSpec.upto forestBackSpec)

/-- 'racewaylaw10.ForestStar', WHERE WHAT IT READS IS OF BULK AT MOST 1048576: true; the input reads as it did. -/
def forestStarUptoRow : OpenClaim := { program := "ytcnmbgijehnchaa", sum := "8654af9f2fcbdda75092fac412090d9ccdf443b37201c81686c59970fb8d59da", func := "raceway/racewaylaw10.ForestStar", spec := "forestStar", unfollowed := true, recurses := true, apart := false, narrowed := true }
def ForestStarUptoSaid : Prop := forestStarUptoRow.holds Try.pinned (OpenSpec.upto forestStarSpec)

/-- 'racewaylaw10.ForestPaths', WHERE WHAT IT READS IS OF BULK AT MOST 1048576: true; the input reads as it did. -/
def forestPathsUptoRow : OpenClaim := { program := "ytcnmbgijehnchaa", sum := "8654af9f2fcbdda75092fac412090d9ccdf443b37201c81686c59970fb8d59da", func := "raceway/racewaylaw10.ForestPaths", spec := "forestPaths", unfollowed := true, recurses := true, apart := false, narrowed := true }
def ForestPathsUptoSaid : Prop := forestPathsUptoRow.holds Try.pinned (OpenSpec.upto forestPathsSpec)

end Rows
end Go.Proofs.Ytcnmbgijehnchaa
