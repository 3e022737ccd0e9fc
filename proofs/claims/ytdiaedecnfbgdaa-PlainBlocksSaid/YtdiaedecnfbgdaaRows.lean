/-
  No cell of these rows narrows 'for every input' (looked for: loops, veiled, ifaces, maps, wideKeys, modest, calm, conditions, laid).
  DERIVED. THE GIVEN ROWS OF THIS SEAT. 10 by the template 'for every input the law returns true; each argument reads behind the call as it read before'; 0 by the template 'total and deterministic' (their statements: YtdiaedecnfbgdaaTotals.lean).
  GIVEN WITH THE SEED: the statements are not yours to turn. If you find one false, say at which input.
  Laid BY PROGRAM, IN A SANDBOX (cutbox-rows.mjs): the forced cells as the released guide's own fill.sh prints them over the translation fe18501062c8be15… (all of the seat's roots in one cut). By AI agents, Wed Nov 11 2026. No macro, syntax, notation, axiom, sorry.
-/
import Derived.Test.YtdiaedecnfbgdaaChecked
import GoSem.Claim
import GoSem.ClaimJoined
import GoSem.ClaimMapViews
import Derived.JoinedTies
import Derived.KernelRfl
namespace Go.Proofs.Ytdiaedecnfbgdaa
/- THE CELL 'sum', in the pinned program and in every row, IS THE sha256 OF THE DUMP (.gsa) THAT YtdiaedecnfbgdaaProg.lean LOADS. Nothing in Lean hashes anything: it is a label: what it is worth is what the hold of that sum in a sandbox is worth. -/
noncomputable def Try.pinned : Pinned := { name := "ytdiaedecnfbgdaa", sum := "fe18501062c8be159aaa928d6d904137e17fdd4773cff64bd2aaeccc63a228f6", checked := Try.checked }
namespace Rows
def none {H : Type} : Left H := { results := [], args := [] }

/-- 'racewaylaw15.DecompLoops': WHATEVER THE INPUT: true; the input reads as it did. -/
def decompLoopsSpec : ChangeSpec := { name := "decompLoops", fn := fun _ => fun
  | [d] => { results := [.lit (.bool true)], args := [d] }
  | _ => none }
def decompLoopsRow : OpenClaim := { program := "ytdiaedecnfbgdaa", sum := "fe18501062c8be159aaa928d6d904137e17fdd4773cff64bd2aaeccc63a228f6", func := "raceway/racewaylaw15.DecompLoops", spec := "decompLoops", unfollowed := true, recurses := true, apart := false }
def DecompLoopsSaid : Prop := decompLoopsRow.holds Try.pinned (OpenSpec.ofChange decompLoopsSpec)

/-- ITS FALSE NEIGHBOUR: 'it returns false'. Refute it at one input. -/
def decompLoopsWrong : ChangeSpec := { name := "decompLoops", fn := fun _ => fun
  | [d] => { results := [.lit (.bool false)], args := [d] }
  | _ => none }
def DecompLoopsWrongFalsely : Prop := decompLoopsRow.holds Try.pinned (OpenSpec.ofChange decompLoopsWrong)

/-- 'racewaylaw15.DecompChain': WHATEVER THE INPUT: true; the input reads as it did. -/
def decompChainSpec : ChangeSpec := { name := "decompChain", fn := fun _ => fun
  | [d1, d2] => { results := [.lit (.bool true)], args := [d1, d2] }
  | _ => none }
def decompChainRow : OpenClaim := { program := "ytdiaedecnfbgdaa", sum := "fe18501062c8be159aaa928d6d904137e17fdd4773cff64bd2aaeccc63a228f6", func := "raceway/racewaylaw15.DecompChain", spec := "decompChain", unfollowed := true, recurses := true, apart := false }
def DecompChainSaid : Prop := decompChainRow.holds Try.pinned (OpenSpec.ofChange decompChainSpec)

/-- ITS FALSE NEIGHBOUR: 'it returns false'. Refute it at one input. -/
def decompChainWrong : ChangeSpec := { name := "decompChain", fn := fun _ => fun
  | [d1, d2] => { results := [.lit (.bool false)], args := [d1, d2] }
  | _ => none }
def DecompChainWrongFalsely : Prop := decompChainRow.holds Try.pinned (OpenSpec.ofChange decompChainWrong)

/-- 'racewaylaw15.DecompBack': WHATEVER THE INPUT: true; the input reads as it did. -/
def decompBackSpec : ChangeSpec := { name := "decompBack", fn := fun _ => fun
  | [d1, d2, d3, d4, d5] => { results := [.lit (.bool true)], args := [d1, d2, d3, d4, d5] }
  | _ => none }
def decompBackRow : OpenClaim := { program := "ytdiaedecnfbgdaa", sum := "fe18501062c8be159aaa928d6d904137e17fdd4773cff64bd2aaeccc63a228f6", func := "raceway/racewaylaw15.DecompBack", spec := "decompBack", unfollowed := true, recurses := true, apart := false }
def DecompBackSaid : Prop := decompBackRow.holds Try.pinned (OpenSpec.ofChange decompBackSpec)

/-- ITS FALSE NEIGHBOUR: 'it returns false'. Refute it at one input. -/
def decompBackWrong : ChangeSpec := { name := "decompBack", fn := fun _ => fun
  | [d1, d2, d3, d4, d5] => { results := [.lit (.bool false)], args := [d1, d2, d3, d4, d5] }
  | _ => none }
def DecompBackWrongFalsely : Prop := decompBackRow.holds Try.pinned (OpenSpec.ofChange decompBackWrong)

/-- 'racewaylaw15.DecompTwice': WHATEVER THE INPUT: true; the input reads as it did. -/
def decompTwiceSpec : ChangeSpec := { name := "decompTwice", fn := fun _ => fun
  | [d1, d2, d3, d4] => { results := [.lit (.bool true)], args := [d1, d2, d3, d4] }
  | _ => none }
def decompTwiceRow : OpenClaim := { program := "ytdiaedecnfbgdaa", sum := "fe18501062c8be159aaa928d6d904137e17fdd4773cff64bd2aaeccc63a228f6", func := "raceway/racewaylaw15.DecompTwice", spec := "decompTwice", unfollowed := true, recurses := true, apart := false }
def DecompTwiceSaid : Prop := decompTwiceRow.holds Try.pinned (OpenSpec.ofChange decompTwiceSpec)

/-- ITS FALSE NEIGHBOUR: 'it returns false'. Refute it at one input. -/
def decompTwiceWrong : ChangeSpec := { name := "decompTwice", fn := fun _ => fun
  | [d1, d2, d3, d4] => { results := [.lit (.bool false)], args := [d1, d2, d3, d4] }
  | _ => none }
def DecompTwiceWrongFalsely : Prop := decompTwiceRow.holds Try.pinned (OpenSpec.ofChange decompTwiceWrong)

/-- 'racewaylaw15.DecompOrder': WHATEVER THE INPUT: true; the input reads as it did. -/
def decompOrderSpec : ChangeSpec := { name := "decompOrder", fn := fun _ => fun
  | [d1, d2, d3, d4, d5] => { results := [.lit (.bool true)], args := [d1, d2, d3, d4, d5] }
  | _ => none }
def decompOrderRow : OpenClaim := { program := "ytdiaedecnfbgdaa", sum := "fe18501062c8be159aaa928d6d904137e17fdd4773cff64bd2aaeccc63a228f6", func := "raceway/racewaylaw15.DecompOrder", spec := "decompOrder", unfollowed := true, recurses := true, apart := false }
def DecompOrderSaid : Prop := decompOrderRow.holds Try.pinned (OpenSpec.ofChange decompOrderSpec)

/-- ITS FALSE NEIGHBOUR: 'it returns false'. Refute it at one input. -/
def decompOrderWrong : ChangeSpec := { name := "decompOrder", fn := fun _ => fun
  | [d1, d2, d3, d4, d5] => { results := [.lit (.bool false)], args := [d1, d2, d3, d4, d5] }
  | _ => none }
def DecompOrderWrongFalsely : Prop := decompOrderRow.holds Try.pinned (OpenSpec.ofChange decompOrderWrong)

/-- 'racewaylaw8.PlainFills': WHATEVER THE INPUT: true; the input reads as it did. -/
def plainFillsSpec : ChangeSpec := { name := "plainFills", fn := fun _ => fun
  | [d1, d2, d3, d4, d5] => { results := [.lit (.bool true)], args := [d1, d2, d3, d4, d5] }
  | _ => none }
def plainFillsRow : OpenClaim := { program := "ytdiaedecnfbgdaa", sum := "fe18501062c8be159aaa928d6d904137e17fdd4773cff64bd2aaeccc63a228f6", func := "raceway/racewaylaw8.PlainFills", spec := "plainFills", unfollowed := true, recurses := true, apart := false }
def PlainFillsSaid : Prop := plainFillsRow.holds Try.pinned (OpenSpec.ofChange plainFillsSpec)

/-- ITS FALSE NEIGHBOUR: 'it returns false'. Refute it at one input. -/
def plainFillsWrong : ChangeSpec := { name := "plainFills", fn := fun _ => fun
  | [d1, d2, d3, d4, d5] => { results := [.lit (.bool false)], args := [d1, d2, d3, d4, d5] }
  | _ => none }
def PlainFillsWrongFalsely : Prop := plainFillsRow.holds Try.pinned (OpenSpec.ofChange plainFillsWrong)

/-- 'racewaylaw8.PlainSingle': WHATEVER THE INPUT: true; the input reads as it did. -/
def plainSingleSpec : ChangeSpec := { name := "plainSingle", fn := fun _ => fun
  | [d1, d2] => { results := [.lit (.bool true)], args := [d1, d2] }
  | _ => none }
def plainSingleRow : OpenClaim := { program := "ytdiaedecnfbgdaa", sum := "fe18501062c8be159aaa928d6d904137e17fdd4773cff64bd2aaeccc63a228f6", func := "raceway/racewaylaw8.PlainSingle", spec := "plainSingle", unfollowed := true, recurses := true, apart := false }
def PlainSingleSaid : Prop := plainSingleRow.holds Try.pinned (OpenSpec.ofChange plainSingleSpec)

/-- ITS FALSE NEIGHBOUR: 'it returns false'. Refute it at one input. -/
def plainSingleWrong : ChangeSpec := { name := "plainSingle", fn := fun _ => fun
  | [d1, d2] => { results := [.lit (.bool false)], args := [d1, d2] }
  | _ => none }
def PlainSingleWrongFalsely : Prop := plainSingleRow.holds Try.pinned (OpenSpec.ofChange plainSingleWrong)

/-- 'racewaylaw8.PlainRooms': WHATEVER THE INPUT: true; the input reads as it did. -/
def plainRoomsSpec : ChangeSpec := { name := "plainRooms", fn := fun _ => fun
  | [d1, d2, d3, d4, d5] => { results := [.lit (.bool true)], args := [d1, d2, d3, d4, d5] }
  | _ => none }
def plainRoomsRow : OpenClaim := { program := "ytdiaedecnfbgdaa", sum := "fe18501062c8be159aaa928d6d904137e17fdd4773cff64bd2aaeccc63a228f6", func := "raceway/racewaylaw8.PlainRooms", spec := "plainRooms", unfollowed := true, recurses := true, apart := false }
def PlainRoomsSaid : Prop := plainRoomsRow.holds Try.pinned (OpenSpec.ofChange plainRoomsSpec)

/-- ITS FALSE NEIGHBOUR: 'it returns false'. Refute it at one input. -/
def plainRoomsWrong : ChangeSpec := { name := "plainRooms", fn := fun _ => fun
  | [d1, d2, d3, d4, d5] => { results := [.lit (.bool false)], args := [d1, d2, d3, d4, d5] }
  | _ => none }
def PlainRoomsWrongFalsely : Prop := plainRoomsRow.holds Try.pinned (OpenSpec.ofChange plainRoomsWrong)

/-- 'racewaylaw8.PlainAgain': WHATEVER THE INPUT: true; the input reads as it did. -/
def plainAgainSpec : ChangeSpec := { name := "plainAgain", fn := fun _ => fun
  | [d1, d2, d3, d4] => { results := [.lit (.bool true)], args := [d1, d2, d3, d4] }
  | _ => none }
def plainAgainRow : OpenClaim := { program := "ytdiaedecnfbgdaa", sum := "fe18501062c8be159aaa928d6d904137e17fdd4773cff64bd2aaeccc63a228f6", func := "raceway/racewaylaw8.PlainAgain", spec := "plainAgain", unfollowed := true, recurses := true, apart := false }
def PlainAgainSaid : Prop := plainAgainRow.holds Try.pinned (OpenSpec.ofChange plainAgainSpec)

/-- ITS FALSE NEIGHBOUR: 'it returns false'. Refute it at one input. -/
def plainAgainWrong : ChangeSpec := { name := "plainAgain", fn := fun _ => fun
  | [d1, d2, d3, d4] => { results := [.lit (.bool false)], args := [d1, d2, d3, d4] }
  | _ => none }
def PlainAgainWrongFalsely : Prop := plainAgainRow.holds Try.pinned (OpenSpec.ofChange plainAgainWrong)

/-- 'racewaylaw8.PlainBlocks': WHATEVER THE INPUT: true; the input reads as it did. -/
def plainBlocksSpec : ChangeSpec := { name := "plainBlocks", fn := fun _ => fun
  | [d1, d2, d3, d4, d5] => { results := [.lit (.bool true)], args := [d1, d2, d3, d4, d5] }
  | _ => none }
def plainBlocksRow : OpenClaim := { program := "ytdiaedecnfbgdaa", sum := "fe18501062c8be159aaa928d6d904137e17fdd4773cff64bd2aaeccc63a228f6", func := "raceway/racewaylaw8.PlainBlocks", spec := "plainBlocks", unfollowed := true, recurses := true, apart := false }
def PlainBlocksSaid : Prop := plainBlocksRow.holds Try.pinned (OpenSpec.ofChange plainBlocksSpec)

/-- ITS FALSE NEIGHBOUR: 'it returns false'. Refute it at one input. -/
def plainBlocksWrong : ChangeSpec := { name := "plainBlocks", fn := fun _ => fun
  | [d1, d2, d3, d4, d5] => { results := [.lit (.bool false)], args := [d1, d2, d3, d4, d5] }
  | _ => none }
def PlainBlocksWrongFalsely : Prop := plainBlocksRow.holds Try.pinned (OpenSpec.ofChange plainBlocksWrong)

/- THE SECOND FORM. 'bulk': how many values and letters a reading holds, each counted each time it is reached (what is shared counts as often as it is met; a slice's spare places count too). A statement '..UptoSaid' is the law's where the arguments, and the package variables that the reading takes, are together of bulk at most 1048576: NARROWER than '..Said'. Prove '..Said' where nothing that the law and all that it calls make is longer than what came in: it says more and counts as full. Else prove '..UptoSaid'. A law counts once. -/
mutual
def uptoBulk {H : Type} : DataW H → Nat
  | .lit (.string bytes) => bytes.length + 1
  | .lit _ => 1
  | .nil => 1
  | .ptr d => uptoBulk d + 1
  | .slice elems spare => uptoBulkAll elems + uptoBulkAll spare + 1
  | .agg parts => uptoBulkAll parts + 1
  | .iface _ d => uptoBulk d + 1
  | .map entries => uptoBulkEntries entries + 1
  | .held _ => 1
def uptoBulkAll {H : Type} : List (DataW H) → Nat
  | [] => 0
  | d :: r => uptoBulk d + uptoBulkAll r
def uptoBulkEntries {H : Type} : List (Lit × DataW H) → Nat
  | [] => 0
  | x :: r => uptoBulkEntry x + uptoBulkEntries r
def uptoBulkEntry {H : Type} : Lit × DataW H → Nat
  | (.string bytes, d) => bytes.length + uptoBulk d + 1
  | (_, d) => uptoBulk d + 1
 end
def uptoSmall : (H : Type) → List (DataW H) → Bool := fun _ ds => decide (uptoBulkAll ds ≤ 1048576)
def OpenSpec.upto (s : _root_.Go.ChangeSpec) : _root_.Go.OpenSpec := { _root_.Go.OpenSpec.ofChange s with cond := some uptoSmall }

/-- 'racewaylaw15.DecompLoops', WHERE WHAT IT READS IS OF BULK AT MOST 1048576: true; the input reads as it did. -/
def decompLoopsUptoRow : OpenClaim := { program := "ytdiaedecnfbgdaa", sum := "fe18501062c8be159aaa928d6d904137e17fdd4773cff64bd2aaeccc63a228f6", func := "raceway/racewaylaw15.DecompLoops", spec := "decompLoops", unfollowed := true, recurses := true, apart := false, narrowed := true }
def DecompLoopsUptoSaid : Prop := decompLoopsUptoRow.holds Try.pinned (OpenSpec.upto decompLoopsSpec)

/-- 'racewaylaw15.DecompChain', WHERE WHAT IT READS IS OF BULK AT MOST 1048576: true; the input reads as it did. -/
def decompChainUptoRow : OpenClaim := { program := "ytdiaedecnfbgdaa", sum := "fe18501062c8be159aaa928d6d904137e17fdd4773cff64bd2aaeccc63a228f6", func := "raceway/racewaylaw15.DecompChain", spec := "decompChain", unfollowed := true, recurses := true, apart := false, narrowed := true }
def DecompChainUptoSaid : Prop := decompChainUptoRow.holds Try.pinned (OpenSpec.upto decompChainSpec)

/-- 'racewaylaw15.DecompBack', WHERE WHAT IT READS IS OF BULK AT MOST 1048576: true; the input reads as it did. -/
def decompBackUptoRow : OpenClaim := { program := "ytdiaedecnfbgdaa", sum := "fe18501062c8be159aaa928d6d904137e17fdd4773cff64bd2aaeccc63a228f6", func := "raceway/racewaylaw15.DecompBack", spec := "decompBack", unfollowed := true, recurses := true, apart := false, narrowed := true }
def DecompBackUptoSaid : Prop := decompBackUptoRow.holds Try.pinned (OpenSpec.upto decompBackSpec)

/-- 'racewaylaw15.DecompTwice', WHERE WHAT IT READS IS OF BULK AT MOST 1048576: true; the input reads as it did. -/
def decompTwiceUptoRow : OpenClaim := { program := "ytdiaedecnfbgdaa", sum := "fe18501062c8be159aaa928d6d904137e17fdd4773cff64bd2aaeccc63a228f6", func := "raceway/racewaylaw15.DecompTwice", spec := "decompTwice", unfollowed := true, recurses := true, apart := false, narrowed := true }
def DecompTwiceUptoSaid : Prop := decompTwiceUptoRow.holds Try.pinned (OpenSpec.upto decompTwiceSpec)

/-- 'racewaylaw15.DecompOrder', WHERE WHAT IT READS IS OF BULK AT MOST 1048576: true; the input reads as it did. -/
def decompOrderUptoRow : OpenClaim := { program := "ytdiaedecnfbgdaa", sum := "fe18501062c8be159aaa928d6d904137e17fdd4773cff64bd2aaeccc63a228f6", func := "raceway/racewaylaw15.DecompOrder", spec := "decompOrder", unfollowed := true, recurses := true, apart := false, narrowed := true }
def DecompOrderUptoSaid : Prop := decompOrderUptoRow.holds Try.pinned (OpenSpec.upto decompOrderSpec)

/-- 'racewaylaw8.PlainFills', WHERE WHAT IT READS IS OF BULK AT MOST 1048576: true; the input reads as it did. -/
def plainFillsUptoRow : OpenClaim := { program := "ytdiaedecnfbgdaa", sum := "fe18501062c8be159aaa928d6d904137e17fdd4773cff64bd2aaeccc63a228f6", func := "raceway/racewaylaw8.PlainFills", spec := "plainFills", unfollowed := true, recurses := true, apart := false, narrowed := true }
def PlainFillsUptoSaid : Prop := plainFillsUptoRow.holds Try.pinned (OpenSpec.upto plainFillsSpec)

/-- 'racewaylaw8.PlainSingle', WHERE WHAT IT READS IS OF BULK AT MOST 1048576: true; the input reads as it did. -/
def plainSingleUptoRow : OpenClaim := { program := "ytdiaedecnfbgdaa", sum := "fe18501062c8be159aaa928d6d904137e17fdd4773cff64bd2aaeccc63a228f6", func := "raceway/racewaylaw8.PlainSingle", spec := "plainSingle", unfollowed := true, recurses := true, apart := false, narrowed := true }
def PlainSingleUptoSaid : Prop := plainSingleUptoRow.holds Try.pinned (OpenSpec.upto plainSingleSpec)

/-- 'racewaylaw8.PlainRooms', WHERE WHAT IT READS IS OF BULK AT MOST 1048576: true; the input reads as it did. -/
def plainRoomsUptoRow : OpenClaim := { program := "ytdiaedecnfbgdaa", sum := "fe18501062c8be159aaa928d6d904137e17fdd4773cff64bd2aaeccc63a228f6", func := "raceway/racewaylaw8.PlainRooms", spec := "plainRooms", unfollowed := true, recurses := true, apart := false, narrowed := true }
def PlainRoomsUptoSaid : Prop := plainRoomsUptoRow.holds Try.pinned (OpenSpec.upto plainRoomsSpec)

/-- 'racewaylaw8.PlainAgain', WHERE WHAT IT READS IS OF BULK AT MOST 1048576: true; the input reads as it did. -/
def plainAgainUptoRow : OpenClaim := { program := "ytdiaedecnfbgdaa", sum := "fe18501062c8be159aaa928d6d904137e17fdd4773cff64bd2aaeccc63a228f6", func := "raceway/racewaylaw8.PlainAgain", spec := "plainAgain", unfollowed := true, recurses := true, apart := false, narrowed := true }
def PlainAgainUptoSaid : Prop := plainAgainUptoRow.holds Try.pinned (OpenSpec.upto plainAgainSpec)

/-- 'racewaylaw8.PlainBlocks', WHERE WHAT IT READS IS OF BULK AT MOST 1048576: true; the input reads as it did. -/
def plainBlocksUptoRow : OpenClaim := { program := "ytdiaedecnfbgdaa", sum := "fe18501062c8be159aaa928d6d904137e17fdd4773cff64bd2aaeccc63a228f6", func := "raceway/racewaylaw8.PlainBlocks", spec := "plainBlocks", unfollowed := true, recurses := true, apart := false, narrowed := true }
def PlainBlocksUptoSaid : Prop := plainBlocksUptoRow.holds Try.pinned (OpenSpec.upto plainBlocksSpec)

end Rows
end Go.Proofs.Ytdiaedecnfbgdaa
