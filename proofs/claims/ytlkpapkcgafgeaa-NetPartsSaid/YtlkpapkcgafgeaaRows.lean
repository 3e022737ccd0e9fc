/-
  No cell of these rows narrows 'for every input' (looked for: loops, veiled, ifaces, maps, wideKeys, modest, calm, conditions, laid).
  DERIVED. THE GIVEN ROWS OF THIS SEAT. 2 by the template 'for every input the law returns true; each argument reads behind the call as it read before'; 0 by the template 'total and deterministic' (their statements: YtlkpapkcgafgeaaTotals.lean).
  GIVEN WITH THE SEED: the statements are not yours to turn. If you find one false, say at which input.
  Laid BY PROGRAM, IN A SANDBOX (cutbox-rows.mjs): the forced cells as the released guide's own fill.sh prints them over the translation 50ebb01c5dabf54d… (all of the seat's roots in one cut). By AI agents, Wed Nov 11 2026. No macro, syntax, notation, axiom, sorry.
-/
import Derived.Test.YtlkpapkcgafgeaaChecked
import GoSem.Claim
import GoSem.ClaimJoined
import GoSem.ClaimMapViews
import Derived.JoinedTies
import Derived.KernelRfl
namespace Go.Proofs.Ytlkpapkcgafgeaa
/- THE CELL 'sum', in the pinned program and in every row, IS THE sha256 OF THE DUMP (.gsa) THAT YtlkpapkcgafgeaaProg.lean LOADS. Nothing in Lean hashes anything: it is a label: what it is worth is what the hold of that sum in a sandbox is worth. -/
noncomputable def Try.pinned : Pinned := { name := "ytlkpapkcgafgeaa", sum := "50ebb01c5dabf54dbc54a7c68ef20a3cfed655d017747ccee5168e975e71dac3", checked := Try.checked }
namespace Rows
def none {H : Type} : Left H := { results := [], args := [] }

/-- 'racewaylaw3.NetParts': WHATEVER THE INPUT: true; the input reads as it did. -/
def netPartsSpec : ChangeSpec := { name := "netParts", fn := fun _ => fun
  | [d1, d2, d3, d4] => { results := [.lit (.bool true)], args := [d1, d2, d3, d4] }
  | _ => none }
def netPartsRow : OpenClaim := { program := "ytlkpapkcgafgeaa", sum := "50ebb01c5dabf54dbc54a7c68ef20a3cfed655d017747ccee5168e975e71dac3", func := "raceway/racewaylaw3.NetParts", spec := "netParts", unfollowed := true, recurses := true, apart := false }
def NetPartsSaid : Prop := netPartsRow.holds Try.pinned (OpenSpec.ofChange netPartsSpec)

/-- ITS FALSE NEIGHBOUR: 'it returns false'. Refute it at one input. -/
def netPartsWrong : ChangeSpec := { name := "netParts", fn := fun _ => fun
  | [d1, d2, d3, d4] => { results := [.lit (.bool false)], args := [d1, d2, d3, d4] }
  | _ => none }
def NetPartsWrongFalsely : Prop := netPartsRow.holds Try.pinned (OpenSpec.ofChange netPartsWrong)

/-- 'racewaylaw5.FlowAdds': WHATEVER THE INPUT: true; the input reads as it did. -/
def flowAddsSpec : ChangeSpec := { name := "flowAdds", fn := fun _ => fun
  | [d1, d2, d3, d4, d5, d6] => { results := [.lit (.bool true)], args := [d1, d2, d3, d4, d5, d6] }
  | _ => none }
def flowAddsRow : OpenClaim := { program := "ytlkpapkcgafgeaa", sum := "50ebb01c5dabf54dbc54a7c68ef20a3cfed655d017747ccee5168e975e71dac3", func := "raceway/racewaylaw5.FlowAdds", spec := "flowAdds", unfollowed := true, recurses := true, apart := false }
def FlowAddsSaid : Prop := flowAddsRow.holds Try.pinned (OpenSpec.ofChange flowAddsSpec)

/-- ITS FALSE NEIGHBOUR: 'it returns false'. Refute it at one input. -/
def flowAddsWrong : ChangeSpec := { name := "flowAdds", fn := fun _ => fun
  | [d1, d2, d3, d4, d5, d6] => { results := [.lit (.bool false)], args := [d1, d2, d3, d4, d5, d6] }
  | _ => none }
def FlowAddsWrongFalsely : Prop := flowAddsRow.holds Try.pinned (OpenSpec.ofChange flowAddsWrong)

/- THE SECOND FORM. 'bulk': how many values and letters a reading holds, each counted each time it is reached (what is shared counts as often as it is met; a slice's spare places count too). A statement '..UptoSaid' is the law's where the arguments, and the package variables that the reading takes, are together of bulk at most 1048576: NARROWER than '..Said'. Prove '..Said' where nothing that the law and all that it calls make is longer than what came in: it says more and counts as full. Else prove '..UptoSaid'. A law counts once. -/
mutual
def uptoBulk {H : Type} : DataW H → Nat
  | .lit (.string bytes) => bytes.length + 1
  | .lit _ => 1
  | .nil => 1
  | .ptr d => uptoBulk d + 1
  | .slice elems spare => uptoBulkAll elems + uptoBulkAll spare + 1
  | .agg parts => uptoBulkAll parts + 1
  | .iface _ d => uptoBulk d + 1
  | .map entries => uptoBulkEntries entries + 1
  | .held _ => 1
def uptoBulkAll {H : Type} : List (DataW H) → Nat
  | [] => 0
  | d :: r => uptoBulk d + uptoBulkAll r
def uptoBulkEntries {H : Type} : List (Lit × DataW H) → Nat
  | [] => 0
  | x :: r => uptoBulkEntry x + uptoBulkEntries r
def uptoBulkEntry {H : Type} : Lit × DataW H → Nat
  | (.string bytes, d) => bytes.length + uptoBulk d + 1
  | (_, d) => uptoBulk d + 1
 end
def uptoSmall : (H : Type) → List (DataW H) → Bool := fun _ ds => decide (uptoBulkAll ds ≤ 1048576)
def OpenSpec.upto (s : _root_.Go.ChangeSpec) : _root_.Go.OpenSpec := { _root_.Go.OpenSpec.ofChange s with cond := some uptoSmall }

/-- 'racewaylaw3.NetParts', WHERE WHAT IT READS IS OF BULK AT MOST 1048576: true; the input reads as it did. -/
def netPartsUptoRow : OpenClaim := { program := "ytlkpapkcgafgeaa", sum := "50ebb01c5dabf54dbc54a7c68ef20a3cfed655d017747ccee5168e975e71dac3", func := "raceway/racewaylaw3.NetParts", spec := "netParts", unfollowed := true, recurses := true, apart := false, narrowed := true }
def NetPartsUptoSaid : Prop := netPartsUptoRow.holds Try.pinned (OpenSpec.upto netPartsSpec)

/-- 'racewaylaw5.FlowAdds', WHERE WHAT IT READS IS OF BULK AT MOST 1048576: true; the input reads as it did. -/
def flowAddsUptoRow : OpenClaim := { program := "ytlkpapkcgafgeaa", sum := "50ebb01c5dabf54dbc54a7c68ef20a3cfed655d017747ccee5168e975e71dac3", func := "raceway/racewaylaw5.FlowAdds", spec := "flowAdds", unfollowed := true, recurses := true, apart := false, narrowed := true }
def FlowAddsUptoSaid : Prop := flowAddsUptoRow.holds Try.pinned (OpenSpec.upto flowAddsSpec)

end Rows
end Go.Proofs.Ytlkpapkcgafgeaa
