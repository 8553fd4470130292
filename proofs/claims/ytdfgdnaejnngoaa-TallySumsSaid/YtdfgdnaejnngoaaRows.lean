/-
  No cell of these rows narrows 'for every input' (looked for: loops, veiled, ifaces, maps, wideKeys, modest, calm, conditions, laid).
  DERIVED. THE GIVEN ROWS OF THIS SEAT. 6 by the template 'for every input the law returns true; each argument reads behind the call as it read before'; 0 by the template 'total and deterministic' (their statements: YtdfgdnaejnngoaaTotals.lean).
  GIVEN WITH THE SEED: the statements are not yours to turn. If you find one false, say at which input.
  Laid BY PROGRAM, IN A SANDBOX (cutbox-rows.mjs): the forced cells as the released guide's own fill.sh prints them over the translation eecc52dd4c3eb0dd… (all of the seat's roots in one cut). By AI agents, Wed Nov 11 2026. No macro, syntax, notation, axiom, sorry.
-/
import Derived.Test.YtdfgdnaejnngoaaChecked
import GoSem.Claim
import GoSem.ClaimJoined
import GoSem.ClaimMapViews
import Derived.JoinedTies
import Derived.KernelRfl
namespace Go.Proofs.Ytdfgdnaejnngoaa
/- THE CELL 'sum', in the pinned program and in every row, IS THE sha256 OF THE DUMP (.gsa) THAT YtdfgdnaejnngoaaProg.lean LOADS. Nothing in Lean hashes anything: it is a label: what it is worth is what the hold of that sum in a sandbox is worth. -/
noncomputable def Try.pinned : Pinned := { name := "ytdfgdnaejnngoaa", sum := "eecc52dd4c3eb0dd277afd244e0bd11feb8f4b77811ebd7ff7a8dd5096fb26bf", checked := Try.checked }
namespace Rows
def none {H : Type} : Left H := { results := [], args := [] }

/-- 'grangerlaw25.OrderExact': WHATEVER THE INPUT: true; the input reads as it did. -/
def orderExactSpec : ChangeSpec := { name := "orderExact", fn := fun _ => fun
  | [d1, d2] => { results := [.lit (.bool true)], args := [d1, d2] }
  | _ => none }
def orderExactRow : OpenClaim := { program := "ytdfgdnaejnngoaa", sum := "eecc52dd4c3eb0dd277afd244e0bd11feb8f4b77811ebd7ff7a8dd5096fb26bf", func := "granger/grangerlaw25.OrderExact", spec := "orderExact", inPlace := ["internal/abi.NoEscape"], unfollowed := true, recurses := true, apart := false }
def OrderExactSaid : Prop := orderExactRow.holds Try.pinned (OpenSpec.ofChange orderExactSpec)

/-- ITS FALSE NEIGHBOUR: 'it returns false'. Refute it at one input. -/
def orderExactWrong : ChangeSpec := { name := "orderExact", fn := fun _ => fun
  | [d1, d2] => { results := [.lit (.bool false)], args := [d1, d2] }
  | _ => none }
def OrderExactWrongFalsely : Prop := orderExactRow.holds Try.pinned (OpenSpec.ofChange orderExactWrong)

/-- 'grangerlaw25.OrderRows': WHATEVER THE INPUT: true; the input reads as it did. -/
def orderRowsSpec : ChangeSpec := { name := "orderRows", fn := fun _ => fun
  | [d1, d2] => { results := [.lit (.bool true)], args := [d1, d2] }
  | _ => none }
def orderRowsRow : OpenClaim := { program := "ytdfgdnaejnngoaa", sum := "eecc52dd4c3eb0dd277afd244e0bd11feb8f4b77811ebd7ff7a8dd5096fb26bf", func := "granger/grangerlaw25.OrderRows", spec := "orderRows", inPlace := ["internal/abi.NoEscape"], unfollowed := true, recurses := true, apart := false }
def OrderRowsSaid : Prop := orderRowsRow.holds Try.pinned (OpenSpec.ofChange orderRowsSpec)

/-- ITS FALSE NEIGHBOUR: 'it returns false'. Refute it at one input. -/
def orderRowsWrong : ChangeSpec := { name := "orderRows", fn := fun _ => fun
  | [d1, d2] => { results := [.lit (.bool false)], args := [d1, d2] }
  | _ => none }
def OrderRowsWrongFalsely : Prop := orderRowsRow.holds Try.pinned (OpenSpec.ofChange orderRowsWrong)

/-- 'grangerlaw25.OrderBack': WHATEVER THE INPUT: true; the input reads as it did. -/
def orderBackSpec : ChangeSpec := { name := "orderBack", fn := fun _ => fun
  | [d1, d2] => { results := [.lit (.bool true)], args := [d1, d2] }
  | _ => none }
def orderBackRow : OpenClaim := { program := "ytdfgdnaejnngoaa", sum := "eecc52dd4c3eb0dd277afd244e0bd11feb8f4b77811ebd7ff7a8dd5096fb26bf", func := "granger/grangerlaw25.OrderBack", spec := "orderBack", inPlace := ["internal/abi.NoEscape"], unfollowed := true, recurses := true, apart := false }
def OrderBackSaid : Prop := orderBackRow.holds Try.pinned (OpenSpec.ofChange orderBackSpec)

/-- ITS FALSE NEIGHBOUR: 'it returns false'. Refute it at one input. -/
def orderBackWrong : ChangeSpec := { name := "orderBack", fn := fun _ => fun
  | [d1, d2] => { results := [.lit (.bool false)], args := [d1, d2] }
  | _ => none }
def OrderBackWrongFalsely : Prop := orderBackRow.holds Try.pinned (OpenSpec.ofChange orderBackWrong)

/-- 'grangerlaw32.TallyExact': WHATEVER THE INPUT: true; the input reads as it did. -/
def tallyExactSpec : ChangeSpec := { name := "tallyExact", fn := fun _ => fun
  | [d] => { results := [.lit (.bool true)], args := [d] }
  | _ => none }
def tallyExactRow : OpenClaim := { program := "ytdfgdnaejnngoaa", sum := "eecc52dd4c3eb0dd277afd244e0bd11feb8f4b77811ebd7ff7a8dd5096fb26bf", func := "granger/grangerlaw32.TallyExact", spec := "tallyExact", inPlace := ["internal/abi.NoEscape"], unfollowed := true, recurses := true, apart := false }
def TallyExactSaid : Prop := tallyExactRow.holds Try.pinned (OpenSpec.ofChange tallyExactSpec)

/-- ITS FALSE NEIGHBOUR: 'it returns false'. Refute it at one input. -/
def tallyExactWrong : ChangeSpec := { name := "tallyExact", fn := fun _ => fun
  | [d] => { results := [.lit (.bool false)], args := [d] }
  | _ => none }
def TallyExactWrongFalsely : Prop := tallyExactRow.holds Try.pinned (OpenSpec.ofChange tallyExactWrong)

/-- 'grangerlaw32.TallySums': WHATEVER THE INPUT: true; the input reads as it did. -/
def tallySumsSpec : ChangeSpec := { name := "tallySums", fn := fun _ => fun
  | [d1, d2, d3] => { results := [.lit (.bool true)], args := [d1, d2, d3] }
  | _ => none }
def tallySumsRow : OpenClaim := { program := "ytdfgdnaejnngoaa", sum := "eecc52dd4c3eb0dd277afd244e0bd11feb8f4b77811ebd7ff7a8dd5096fb26bf", func := "granger/grangerlaw32.TallySums", spec := "tallySums", inPlace := ["internal/abi.NoEscape"], unfollowed := true, recurses := true, apart := false }
def TallySumsSaid : Prop := tallySumsRow.holds Try.pinned (OpenSpec.ofChange tallySumsSpec)

/-- ITS FALSE NEIGHBOUR: 'it returns false'. Refute it at one input. -/
def tallySumsWrong : ChangeSpec := { name := "tallySums", fn := fun _ => fun
  | [d1, d2, d3] => { results := [.lit (.bool false)], args := [d1, d2, d3] }
  | _ => none }
def TallySumsWrongFalsely : Prop := tallySumsRow.holds Try.pinned (OpenSpec.ofChange tallySumsWrong)

/-- 'grangerlaw32.TallyParts': WHATEVER THE INPUT: true; the input reads as it did. -/
def tallyPartsSpec : ChangeSpec := { name := "tallyParts", fn := fun _ => fun
  | [d1, d2] => { results := [.lit (.bool true)], args := [d1, d2] }
  | _ => none }
def tallyPartsRow : OpenClaim := { program := "ytdfgdnaejnngoaa", sum := "eecc52dd4c3eb0dd277afd244e0bd11feb8f4b77811ebd7ff7a8dd5096fb26bf", func := "granger/grangerlaw32.TallyParts", spec := "tallyParts", inPlace := ["internal/abi.NoEscape"], unfollowed := true, recurses := true, apart := false }
def TallyPartsSaid : Prop := tallyPartsRow.holds Try.pinned (OpenSpec.ofChange tallyPartsSpec)

/-- ITS FALSE NEIGHBOUR: 'it returns false'. Refute it at one input. -/
def tallyPartsWrong : ChangeSpec := { name := "tallyParts", fn := fun _ => fun
  | [d1, d2] => { results := [.lit (.bool false)], args := [d1, d2] }
  | _ => none }
def TallyPartsWrongFalsely : Prop := tallyPartsRow.holds Try.pinned (OpenSpec.ofChange tallyPartsWrong)

/- THE SECOND FORM. 'bulk': how many values and letters a reading holds, each counted each time it is reached (what is shared counts as often as it is met; a slice's spare places count too). A statement '..UptoSaid' is the law's where the arguments, and the package variables that the reading takes, are together of bulk at most 1048576: NARROWER than '..Said'. Prove '..Said' where nothing that the law and all that it calls make is longer than what came in: it says more and counts as full. Else prove '..UptoSaid'. A law counts once. -/
mutual
def uptoBulk {H : Type} : DataW H → Nat
  | .lit (.string bytes) => bytes.length + 1
  | .lit _ => 1
  | .nil => 1
  | .ptr d => uptoBulk d + 1
  | .slice elems spare => uptoBulkAll elems + uptoBulkAll spare + 1
  | .agg parts => uptoBulkAll parts + 1
  | .iface _ d => uptoBulk d + 1
  | .map entries => uptoBulkEntries entries + 1
  | .held _ => 1
def uptoBulkAll {H : Type} : List (DataW H) → Nat
  | [] => 0
  | d :: r => uptoBulk d + uptoBulkAll r
def uptoBulkEntries {H : Type} : List (Lit × DataW H) → Nat
  | [] => 0
  | x :: r => uptoBulkEntry x + uptoBulkEntries r
def uptoBulkEntry {H : Type} : Lit × DataW H → Nat
  | (.string bytes, d) => bytes.length + uptoBulk d + 1
  | (_, d) => uptoBulk d + 1
 end
def uptoSmall : (H : Type) → List (DataW H) → Bool := fun _ ds => decide (uptoBulkAll ds ≤ 1048576)
def OpenSpec.upto (s : _root_.Go.ChangeSpec) : _root_.Go.OpenSpec := { _root_.Go.OpenSpec.ofChange s with cond := some uptoSmall }

/-- 'grangerlaw25.OrderExact', WHERE WHAT IT READS IS OF BULK AT MOST 1048576: true; the input reads as it did. -/
def orderExactUptoRow : OpenClaim := { program := "ytdfgdnaejnngoaa", sum := "eecc52dd4c3eb0dd277afd244e0bd11feb8f4b77811ebd7ff7a8dd5096fb26bf", func := "granger/grangerlaw25.OrderExact", spec := "orderExact", inPlace := ["internal/abi.NoEscape"], unfollowed := true, recurses := true, apart := false, narrowed := true }
def OrderExactUptoSaid : Prop := orderExactUptoRow.holds Try.pinned (OpenSpec.upto orderExactSpec)

/-- 'grangerlaw25.OrderRows', WHERE WHAT IT READS IS OF BULK AT MOST 1048576: true; the input reads as it did. -/
def orderRowsUptoRow : OpenClaim := { program := "ytdfgdnaejnngoaa", sum := "eecc52dd4c3eb0dd277afd244e0bd11feb8f4b77811ebd7ff7a8dd5096fb26bf", func := "granger/grangerlaw25.OrderRows", spec := "orderRows", inPlace := ["internal/abi.NoEscape"], unfollowed := true, recurses := true, apart := false, narrowed := true }
def OrderRowsUptoSaid : Prop := orderRowsUptoRow.holds Try.pinned (OpenSpec.upto orderRowsSpec)

/-- 'grangerlaw25.OrderBack', WHERE WHAT IT READS IS OF BULK AT MOST 1048576: true; the input reads as it did. -/
def orderBackUptoRow : OpenClaim := { program := "ytdfgdnaejnngoaa", sum := "eecc52dd4c3eb0dd277afd244e0bd11feb8f4b77811ebd7ff7a8dd5096fb26bf", func := "granger/grangerlaw25.OrderBack", spec := "orderBack", inPlace := ["internal/abi.NoEscape"], unfollowed := true, recurses := true, apart := false, narrowed := true }
def OrderBackUptoSaid : Prop := orderBackUptoRow.holds Try.pinned (OpenSpec.upto orderBackSpec)

/-- 'grangerlaw32.TallyExact', WHERE WHAT IT READS IS OF BULK AT MOST 1048576: true; the input reads as it did. -/
def tallyExactUptoRow : OpenClaim := { program := "ytdfgdnaejnngoaa", sum := "eecc52dd4c3eb0dd277afd244e0bd11feb8f4b77811ebd7ff7a8dd5096fb26bf", func := "granger/grangerlaw32.TallyExact", spec := "tallyExact", inPlace := ["internal/abi.NoEscape"], unfollowed := true, recurses := true, apart := false, narrowed := true }
def TallyExactUptoSaid : Prop := tallyExactUptoRow.holds Try.pinned (OpenSpec.upto tallyExactSpec)

/-- 'grangerlaw32.TallySums', WHERE WHAT IT READS IS OF BULK AT MOST 1048576: true; the input reads as it did. -/
def tallySumsUptoRow : OpenClaim := { program := "ytdfgdnaejnngoaa", sum := "eecc52dd4c3eb0dd277afd244e0bd11feb8f4b77811ebd7ff7a8dd5096fb26bf", func := "granger/grangerlaw32.TallySums", spec := "tallySums", inPlace := ["internal/abi.NoEscape"], unfollowed := true, recurses := true, apart := false, narrowed := true }
def TallySumsUptoSaid : Prop := tallySumsUptoRow.holds Try.pinned (OpenSpec.upto tallySumsSpec)

/-- 'grangerlaw32.TallyParts', WHERE WHAT IT READS IS OF BULK AT MOST 1048576: true; the input reads as it did. -/
def tallyPartsUptoRow : OpenClaim := { program := "ytdfgdnaejnngoaa", sum := "eecc52dd4c3eb0dd277afd244e0bd11feb8f4b77811ebd7ff7a8dd5096fb26bf", func := "granger/grangerlaw32.TallyParts", spec := "tallyParts", inPlace := ["internal/abi.NoEscape"], unfollowed := true, recurses := true, apart := false, narrowed := true }
def TallyPartsUptoSaid : Prop := tallyPartsUptoRow.holds Try.pinned (OpenSpec.upto tallyPartsSpec)

end Rows
end Go.Proofs.Ytdfgdnaejnngoaa
