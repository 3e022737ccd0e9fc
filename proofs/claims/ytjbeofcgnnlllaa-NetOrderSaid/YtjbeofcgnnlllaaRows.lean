/-
  No cell of these rows narrows 'for every input' (looked for: loops, veiled, ifaces, maps, wideKeys, modest, calm, conditions, laid).
  DERIVED. THE GIVEN ROWS OF THIS SEAT. 11 by the template 'for every input the law returns true; each argument reads behind the call as it read before'; 0 by the template 'total and deterministic' (their statements: YtjbeofcgnnlllaaTotals.lean).
  GIVEN WITH THE SEED: the statements are not yours to turn. If you find one false, say at which input.
  Laid BY PROGRAM, IN A SANDBOX (cutbox-rows.mjs): the forced cells as the released guide's own fill.sh prints them over the translation f3c699c8b3613363… (all of the seat's roots in one cut). By AI agents, Wed Nov 11 2026. No macro, syntax, notation, axiom, sorry.
-/
import Derived.Test.YtjbeofcgnnlllaaChecked
import GoSem.Claim
import GoSem.ClaimJoined
import GoSem.ClaimMapViews
import Derived.JoinedTies
import Derived.KernelRfl
namespace Go.Proofs.Ytjbeofcgnnlllaa
/- THE CELL 'sum', in the pinned program and in every row, IS THE sha256 OF THE DUMP (.gsa) THAT YtjbeofcgnnlllaaProg.lean LOADS. Nothing in Lean hashes anything: it is a label: what it is worth is what the hold of that sum in a sandbox is worth. -/
noncomputable def Try.pinned : Pinned := { name := "ytjbeofcgnnlllaa", sum := "f3c699c8b3613363e7d7afaf2a019a42e0929b973163477f6647ab38fdc0f353", checked := Try.checked }
namespace Rows
def none {H : Type} : Left H := { results := [], args := [] }

/-- 'racewaylaw3.NetSums': WHATEVER THE INPUT: true; the input reads as it did. -/
def netSumsSpec : ChangeSpec := { name := "netSums", fn := fun _ => fun
  | [d1, d2] => { results := [.lit (.bool true)], args := [d1, d2] }
  | _ => none }
def netSumsRow : OpenClaim := { program := "ytjbeofcgnnlllaa", sum := "f3c699c8b3613363e7d7afaf2a019a42e0929b973163477f6647ab38fdc0f353", func := "raceway/racewaylaw3.NetSums", spec := "netSums", unfollowed := true, recurses := true, apart := false }
def NetSumsSaid : Prop := netSumsRow.holds Try.pinned (OpenSpec.ofChange netSumsSpec)

/-- ITS FALSE NEIGHBOUR: 'it returns false'. Refute it at one input. -/
def netSumsWrong : ChangeSpec := { name := "netSums", fn := fun _ => fun
  | [d1, d2] => { results := [.lit (.bool false)], args := [d1, d2] }
  | _ => none }
def NetSumsWrongFalsely : Prop := netSumsRow.holds Try.pinned (OpenSpec.ofChange netSumsWrong)

/-- 'racewaylaw3.NetSames': WHATEVER THE INPUT: true; the input reads as it did. -/
def netSamesSpec : ChangeSpec := { name := "netSames", fn := fun _ => fun
  | [d1, d2, d3, d4, d5] => { results := [.lit (.bool true)], args := [d1, d2, d3, d4, d5] }
  | _ => none }
def netSamesRow : OpenClaim := { program := "ytjbeofcgnnlllaa", sum := "f3c699c8b3613363e7d7afaf2a019a42e0929b973163477f6647ab38fdc0f353", func := "raceway/racewaylaw3.NetSames", spec := "netSames", unfollowed := true, recurses := true, apart := false }
def NetSamesSaid : Prop := netSamesRow.holds Try.pinned (OpenSpec.ofChange netSamesSpec)

/-- ITS FALSE NEIGHBOUR: 'it returns false'. Refute it at one input. -/
def netSamesWrong : ChangeSpec := { name := "netSames", fn := fun _ => fun
  | [d1, d2, d3, d4, d5] => { results := [.lit (.bool false)], args := [d1, d2, d3, d4, d5] }
  | _ => none }
def NetSamesWrongFalsely : Prop := netSamesRow.holds Try.pinned (OpenSpec.ofChange netSamesWrong)

/-- 'racewaylaw3.NetOrder': WHATEVER THE INPUT: true; the input reads as it did. -/
def netOrderSpec : ChangeSpec := { name := "netOrder", fn := fun _ => fun
  | [d1, d2, d3, d4, d5] => { results := [.lit (.bool true)], args := [d1, d2, d3, d4, d5] }
  | _ => none }
def netOrderRow : OpenClaim := { program := "ytjbeofcgnnlllaa", sum := "f3c699c8b3613363e7d7afaf2a019a42e0929b973163477f6647ab38fdc0f353", func := "raceway/racewaylaw3.NetOrder", spec := "netOrder", unfollowed := true, recurses := true, apart := false }
def NetOrderSaid : Prop := netOrderRow.holds Try.pinned (OpenSpec.ofChange netOrderSpec)

/-- ITS FALSE NEIGHBOUR: 'it returns false'. Refute it at one input. -/
def netOrderWrong : ChangeSpec := { name := "netOrder", fn := fun _ => fun
  | [d1, d2, d3, d4, d5] => { results := [.lit (.bool false)], args := [d1, d2, d3, d4, d5] }
  | _ => none }
def NetOrderWrongFalsely : Prop := netOrderRow.holds Try.pinned (OpenSpec.ofChange netOrderWrong)

/-- 'racewaylaw3.NetParts': WHATEVER THE INPUT: true; the input reads as it did. -/
def netPartsSpec : ChangeSpec := { name := "netParts", fn := fun _ => fun
  | [d1, d2, d3, d4] => { results := [.lit (.bool true)], args := [d1, d2, d3, d4] }
  | _ => none }
def netPartsRow : OpenClaim := { program := "ytjbeofcgnnlllaa", sum := "f3c699c8b3613363e7d7afaf2a019a42e0929b973163477f6647ab38fdc0f353", func := "raceway/racewaylaw3.NetParts", spec := "netParts", unfollowed := true, recurses := true, apart := false }
def NetPartsSaid : Prop := netPartsRow.holds Try.pinned (OpenSpec.ofChange netPartsSpec)

/-- ITS FALSE NEIGHBOUR: 'it returns false'. Refute it at one input. -/
def netPartsWrong : ChangeSpec := { name := "netParts", fn := fun _ => fun
  | [d1, d2, d3, d4] => { results := [.lit (.bool false)], args := [d1, d2, d3, d4] }
  | _ => none }
def NetPartsWrongFalsely : Prop := netPartsRow.holds Try.pinned (OpenSpec.ofChange netPartsWrong)

/-- 'racewaylaw3.NetDegrees': WHATEVER THE INPUT: true; the input reads as it did. -/
def netDegreesSpec : ChangeSpec := { name := "netDegrees", fn := fun _ => fun
  | [d1, d2, d3, d4] => { results := [.lit (.bool true)], args := [d1, d2, d3, d4] }
  | _ => none }
def netDegreesRow : OpenClaim := { program := "ytjbeofcgnnlllaa", sum := "f3c699c8b3613363e7d7afaf2a019a42e0929b973163477f6647ab38fdc0f353", func := "raceway/racewaylaw3.NetDegrees", spec := "netDegrees", unfollowed := true, recurses := true, apart := false }
def NetDegreesSaid : Prop := netDegreesRow.holds Try.pinned (OpenSpec.ofChange netDegreesSpec)

/-- ITS FALSE NEIGHBOUR: 'it returns false'. Refute it at one input. -/
def netDegreesWrong : ChangeSpec := { name := "netDegrees", fn := fun _ => fun
  | [d1, d2, d3, d4] => { results := [.lit (.bool false)], args := [d1, d2, d3, d4] }
  | _ => none }
def NetDegreesWrongFalsely : Prop := netDegreesRow.holds Try.pinned (OpenSpec.ofChange netDegreesWrong)

/-- 'racewaylaw3.NetTurns': WHATEVER THE INPUT: true; the input reads as it did. -/
def netTurnsSpec : ChangeSpec := { name := "netTurns", fn := fun _ => fun
  | [d1, d2] => { results := [.lit (.bool true)], args := [d1, d2] }
  | _ => none }
def netTurnsRow : OpenClaim := { program := "ytjbeofcgnnlllaa", sum := "f3c699c8b3613363e7d7afaf2a019a42e0929b973163477f6647ab38fdc0f353", func := "raceway/racewaylaw3.NetTurns", spec := "netTurns", unfollowed := true, recurses := true, apart := false }
def NetTurnsSaid : Prop := netTurnsRow.holds Try.pinned (OpenSpec.ofChange netTurnsSpec)

/-- ITS FALSE NEIGHBOUR: 'it returns false'. Refute it at one input. -/
def netTurnsWrong : ChangeSpec := { name := "netTurns", fn := fun _ => fun
  | [d1, d2] => { results := [.lit (.bool false)], args := [d1, d2] }
  | _ => none }
def NetTurnsWrongFalsely : Prop := netTurnsRow.holds Try.pinned (OpenSpec.ofChange netTurnsWrong)

/-- 'racewaylaw5.FlowLoops': WHATEVER THE INPUT: true; the input reads as it did. -/
def flowLoopsSpec : ChangeSpec := { name := "flowLoops", fn := fun _ => fun
  | [d1, d2, d3, d4, d5, d6] => { results := [.lit (.bool true)], args := [d1, d2, d3, d4, d5, d6] }
  | _ => none }
def flowLoopsRow : OpenClaim := { program := "ytjbeofcgnnlllaa", sum := "f3c699c8b3613363e7d7afaf2a019a42e0929b973163477f6647ab38fdc0f353", func := "raceway/racewaylaw5.FlowLoops", spec := "flowLoops", unfollowed := true, recurses := true, apart := false }
def FlowLoopsSaid : Prop := flowLoopsRow.holds Try.pinned (OpenSpec.ofChange flowLoopsSpec)

/-- ITS FALSE NEIGHBOUR: 'it returns false'. Refute it at one input. -/
def flowLoopsWrong : ChangeSpec := { name := "flowLoops", fn := fun _ => fun
  | [d1, d2, d3, d4, d5, d6] => { results := [.lit (.bool false)], args := [d1, d2, d3, d4, d5, d6] }
  | _ => none }
def FlowLoopsWrongFalsely : Prop := flowLoopsRow.holds Try.pinned (OpenSpec.ofChange flowLoopsWrong)

/-- 'racewaylaw5.FlowAdds': WHATEVER THE INPUT: true; the input reads as it did. -/
def flowAddsSpec : ChangeSpec := { name := "flowAdds", fn := fun _ => fun
  | [d1, d2, d3, d4, d5, d6] => { results := [.lit (.bool true)], args := [d1, d2, d3, d4, d5, d6] }
  | _ => none }
def flowAddsRow : OpenClaim := { program := "ytjbeofcgnnlllaa", sum := "f3c699c8b3613363e7d7afaf2a019a42e0929b973163477f6647ab38fdc0f353", func := "raceway/racewaylaw5.FlowAdds", spec := "flowAdds", unfollowed := true, recurses := true, apart := false }
def FlowAddsSaid : Prop := flowAddsRow.holds Try.pinned (OpenSpec.ofChange flowAddsSpec)

/-- ITS FALSE NEIGHBOUR: 'it returns false'. Refute it at one input. -/
def flowAddsWrong : ChangeSpec := { name := "flowAdds", fn := fun _ => fun
  | [d1, d2, d3, d4, d5, d6] => { results := [.lit (.bool false)], args := [d1, d2, d3, d4, d5, d6] }
  | _ => none }
def FlowAddsWrongFalsely : Prop := flowAddsRow.holds Try.pinned (OpenSpec.ofChange flowAddsWrong)

/-- 'racewaylaw5.FlowScales': WHATEVER THE INPUT: true; the input reads as it did. -/
def flowScalesSpec : ChangeSpec := { name := "flowScales", fn := fun _ => fun
  | [d1, d2, d3, d4, d5] => { results := [.lit (.bool true)], args := [d1, d2, d3, d4, d5] }
  | _ => none }
def flowScalesRow : OpenClaim := { program := "ytjbeofcgnnlllaa", sum := "f3c699c8b3613363e7d7afaf2a019a42e0929b973163477f6647ab38fdc0f353", func := "raceway/racewaylaw5.FlowScales", spec := "flowScales", unfollowed := true, recurses := true, apart := false }
def FlowScalesSaid : Prop := flowScalesRow.holds Try.pinned (OpenSpec.ofChange flowScalesSpec)

/-- ITS FALSE NEIGHBOUR: 'it returns false'. Refute it at one input. -/
def flowScalesWrong : ChangeSpec := { name := "flowScales", fn := fun _ => fun
  | [d1, d2, d3, d4, d5] => { results := [.lit (.bool false)], args := [d1, d2, d3, d4, d5] }
  | _ => none }
def FlowScalesWrongFalsely : Prop := flowScalesRow.holds Try.pinned (OpenSpec.ofChange flowScalesWrong)

/-- 'racewaylaw5.FlowHalves': WHATEVER THE INPUT: true; the input reads as it did. -/
def flowHalvesSpec : ChangeSpec := { name := "flowHalves", fn := fun _ => fun
  | [d1, d2, d3, d4, d5] => { results := [.lit (.bool true)], args := [d1, d2, d3, d4, d5] }
  | _ => none }
def flowHalvesRow : OpenClaim := { program := "ytjbeofcgnnlllaa", sum := "f3c699c8b3613363e7d7afaf2a019a42e0929b973163477f6647ab38fdc0f353", func := "raceway/racewaylaw5.FlowHalves", spec := "flowHalves", unfollowed := true, recurses := true, apart := false }
def FlowHalvesSaid : Prop := flowHalvesRow.holds Try.pinned (OpenSpec.ofChange flowHalvesSpec)

/-- ITS FALSE NEIGHBOUR: 'it returns false'. Refute it at one input. -/
def flowHalvesWrong : ChangeSpec := { name := "flowHalves", fn := fun _ => fun
  | [d1, d2, d3, d4, d5] => { results := [.lit (.bool false)], args := [d1, d2, d3, d4, d5] }
  | _ => none }
def FlowHalvesWrongFalsely : Prop := flowHalvesRow.holds Try.pinned (OpenSpec.ofChange flowHalvesWrong)

/-- 'racewaylaw6.ResidualRooms': WHATEVER THE INPUT: true; the input reads as it did. -/
def residualRoomsSpec : ChangeSpec := { name := "residualRooms", fn := fun _ => fun
  | [d1, d2, d3, d4] => { results := [.lit (.bool true)], args := [d1, d2, d3, d4] }
  | _ => none }
def residualRoomsRow : OpenClaim := { program := "ytjbeofcgnnlllaa", sum := "f3c699c8b3613363e7d7afaf2a019a42e0929b973163477f6647ab38fdc0f353", func := "raceway/racewaylaw6.ResidualRooms", spec := "residualRooms", unfollowed := true, recurses := true, apart := false }
def ResidualRoomsSaid : Prop := residualRoomsRow.holds Try.pinned (OpenSpec.ofChange residualRoomsSpec)

/-- ITS FALSE NEIGHBOUR: 'it returns false'. Refute it at one input. -/
def residualRoomsWrong : ChangeSpec := { name := "residualRooms", fn := fun _ => fun
  | [d1, d2, d3, d4] => { results := [.lit (.bool false)], args := [d1, d2, d3, d4] }
  | _ => none }
def ResidualRoomsWrongFalsely : Prop := residualRoomsRow.holds Try.pinned (OpenSpec.ofChange residualRoomsWrong)

/- THE SECOND FORM. 'bulk': how many values and letters a reading holds, each counted each time it is reached (what is shared counts as often as it is met; a slice's spare places count too). A statement '..UptoSaid' is the law's where the arguments, and the package variables that the reading takes, are together of bulk at most 1048576: NARROWER than '..Said'. Prove '..Said' where nothing that the law and all that it calls make is longer than what came in: it says more and counts as full. Else prove '..UptoSaid'. A law counts once. -/
mutual
def uptoBulk {H : Type} : DataW H → Nat
  | .lit (.string bytes) => bytes.length + 1
  | .lit _ => 1
  | .nil => 1
  | .ptr d => uptoBulk d + 1
  | .slice elems spare => uptoBulkAll elems + uptoBulkAll spare + 1
  | .agg parts => uptoBulkAll parts + 1
  | .iface _ d => uptoBulk d + 1
  | .map entries => uptoBulkEntries entries + 1
  | .held _ => 1
def uptoBulkAll {H : Type} : List (DataW H) → Nat
  | [] => 0
  | d :: r => uptoBulk d + uptoBulkAll r
def uptoBulkEntries {H : Type} : List (Lit × DataW H) → Nat
  | [] => 0
  | x :: r => uptoBulkEntry x + uptoBulkEntries r
def uptoBulkEntry {H : Type} : Lit × DataW H → Nat
  | (.string bytes, d) => bytes.length + uptoBulk d + 1
  | (_, d) => uptoBulk d + 1
 end
def uptoSmall : (H : Type) → List (DataW H) → Bool := fun _ ds => decide (uptoBulkAll ds ≤ 1048576)
def OpenSpec.upto (s : _root_.Go.ChangeSpec) : _root_.Go.OpenSpec := { _root_.Go.OpenSpec.ofChange s with cond := some uptoSmall }

/-- 'racewaylaw3.NetSums', WHERE WHAT IT READS IS OF BULK AT MOST 1048576: true; the input reads as it did. -/
def netSumsUptoRow : OpenClaim := { program := "ytjbeofcgnnlllaa", sum := "f3c699c8b3613363e7d7afaf2a019a42e0929b973163477f6647ab38fdc0f353", func := "raceway/racewaylaw3.NetSums", spec := "netSums", unfollowed := true, recurses := true, apart := false, narrowed := true }
def NetSumsUptoSaid : Prop := netSumsUptoRow.holds Try.pinned (OpenSpec.upto netSumsSpec)

/-- 'racewaylaw3.NetSames', WHERE WHAT IT READS IS OF BULK AT MOST 1048576: true; the input reads as it did. -/
def netSamesUptoRow : OpenClaim := { program := "ytjbeofcgnnlllaa", sum := "f3c699c8b3613363e7d7afaf2a019a42e0929b973163477f6647ab38fdc0f353", func := "raceway/racewaylaw3.NetSames", spec := "netSames", unfollowed := true, recurses := true, apart := false, narrowed := true }
def NetSamesUptoSaid : Prop := netSamesUptoRow.holds Try.pinned (OpenSpec.upto netSamesSpec)

/-- 'racewaylaw3.NetOrder', WHERE WHAT IT READS IS OF BULK AT MOST 1048576: true; the input reads as it did. -/
def netOrderUptoRow : OpenClaim := { program := "ytjbeofcgnnlllaa", sum := "f3c699c8b3613363e7d7afaf2a019a42e0929b973163477f6647ab38fdc0f353", func := "raceway/racewaylaw3.NetOrder", spec := "netOrder", unfollowed := true, recurses := true, apart := false, narrowed := true }
def NetOrderUptoSaid : Prop := netOrderUptoRow.holds Try.pinned (OpenSpec.upto netOrderSpec)

/-- 'racewaylaw3.NetParts', WHERE WHAT IT READS IS OF BULK AT MOST 1048576: true; the input reads as it did. -/
def netPartsUptoRow : OpenClaim := { program := "ytjbeofcgnnlllaa", sum := "f3c699c8b3613363e7d7afaf2a019a42e0929b973163477f6647ab38fdc0f353", func := "raceway/racewaylaw3.NetParts", spec := "netParts", unfollowed := true, recurses := true, apart := false, narrowed := true }
def NetPartsUptoSaid : Prop := netPartsUptoRow.holds Try.pinned (OpenSpec.upto netPartsSpec)

/-- 'racewaylaw3.NetDegrees', WHERE WHAT IT READS IS OF BULK AT MOST 1048576: true; the input reads as it did. -/
def netDegreesUptoRow : OpenClaim := { program := "ytjbeofcgnnlllaa", sum := "f3c699c8b3613363e7d7afaf2a019a42e0929b973163477f6647ab38fdc0f353", func := "raceway/racewaylaw3.NetDegrees", spec := "netDegrees", unfollowed := true, recurses := true, apart := false, narrowed := true }
def NetDegreesUptoSaid : Prop := netDegreesUptoRow.holds Try.pinned (OpenSpec.upto netDegreesSpec)

/-- 'racewaylaw3.NetTurns', WHERE WHAT IT READS IS OF BULK AT MOST 1048576: true; the input reads as it did. -/
def netTurnsUptoRow : OpenClaim := { program := "ytjbeofcgnnlllaa", sum := "f3c699c8b3613363e7d7afaf2a019a42e0929b973163477f6647ab38fdc0f353", func := "raceway/racewaylaw3.NetTurns", spec := "netTurns", unfollowed := true, recurses := true, apart := false, narrowed := true }
def NetTurnsUptoSaid : Prop := netTurnsUptoRow.holds Try.pinned (OpenSpec.upto netTurnsSpec)

/-- 'racewaylaw5.FlowLoops', WHERE WHAT IT READS IS OF BULK AT MOST 1048576: true; the input reads as it did. -/
def flowLoopsUptoRow : OpenClaim := { program := "ytjbeofcgnnlllaa", sum := "f3c699c8b3613363e7d7afaf2a019a42e0929b973163477f6647ab38fdc0f353", func := "raceway/racewaylaw5.FlowLoops", spec := "flowLoops", unfollowed := true, recurses := true, apart := false, narrowed := true }
def FlowLoopsUptoSaid : Prop := flowLoopsUptoRow.holds Try.pinned (OpenSpec.upto flowLoopsSpec)

/-- 'racewaylaw5.FlowAdds', WHERE WHAT IT READS IS OF BULK AT MOST 1048576: true; the input reads as it did. -/
def flowAddsUptoRow : OpenClaim := { program := "ytjbeofcgnnlllaa", sum := "f3c699c8b3613363e7d7afaf2a019a42e0929b973163477f6647ab38fdc0f353", func := "raceway/racewaylaw5.FlowAdds", spec := "flowAdds", unfollowed := true, recurses := true, apart := false, narrowed := true }
def FlowAddsUptoSaid : Prop := flowAddsUptoRow.holds Try.pinned (OpenSpec.upto flowAddsSpec)

/-- 'racewaylaw5.FlowScales', WHERE WHAT IT READS IS OF BULK AT MOST 1048576: true; the input reads as it did. -/
def flowScalesUptoRow : OpenClaim := { program := "ytjbeofcgnnlllaa", sum := "f3c699c8b3613363e7d7afaf2a019a42e0929b973163477f6647ab38fdc0f353", func := "raceway/racewaylaw5.FlowScales", spec := "flowScales", unfollowed := true, recurses := true, apart := false, narrowed := true }
def FlowScalesUptoSaid : Prop := flowScalesUptoRow.holds Try.pinned (OpenSpec.upto flowScalesSpec)

/-- 'racewaylaw5.FlowHalves', WHERE WHAT IT READS IS OF BULK AT MOST 1048576: true; the input reads as it did. -/
def flowHalvesUptoRow : OpenClaim := { program := "ytjbeofcgnnlllaa", sum := "f3c699c8b3613363e7d7afaf2a019a42e0929b973163477f6647ab38fdc0f353", func := "raceway/racewaylaw5.FlowHalves", spec := "flowHalves", unfollowed := true, recurses := true, apart := false, narrowed := true }
def FlowHalvesUptoSaid : Prop := flowHalvesUptoRow.holds Try.pinned (OpenSpec.upto flowHalvesSpec)

/-- 'racewaylaw6.ResidualRooms', WHERE WHAT IT READS IS OF BULK AT MOST 1048576: true; the input reads as it did. -/
def residualRoomsUptoRow : OpenClaim := { program := "ytjbeofcgnnlllaa", sum := "f3c699c8b3613363e7d7afaf2a019a42e0929b973163477f6647ab38fdc0f353", func := "raceway/racewaylaw6.ResidualRooms", spec := "residualRooms", unfollowed := true, recurses := true, apart := false, narrowed := true }
def ResidualRoomsUptoSaid : Prop := residualRoomsUptoRow.holds Try.pinned (OpenSpec.upto residualRoomsSpec)

end Rows
end Go.Proofs.Ytjbeofcgnnlllaa
