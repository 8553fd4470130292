/-
  No cell of these rows narrows 'for every input' (looked for: loops, veiled, ifaces, maps, wideKeys, modest, calm, conditions, laid).
  DERIVED. THE GIVEN ROWS OF THIS SEAT. 7 by the template 'for every input the law returns true; each argument reads behind the call as it read before'; 0 by the template 'total and deterministic' (their statements: YtdfgdnaejnngoaaGreatTotals.lean).
  GIVEN WITH THE SEED: the statements are not yours to turn. If you find one false, say at which input.
  Laid BY PROGRAM, IN A SANDBOX (cutbox-rows.mjs): the forced cells as the released guide's own fill.sh prints them over the translation d651d6c48b5c7856… (all of the seat's roots in one cut). By AI agents, Wed Nov 11 2026. No macro, syntax, notation, axiom, sorry.
-/
import Derived.Test.YtdfgdnaejnngoaaGreatChecked
import GoSem.Claim
import GoSem.ClaimJoined
import GoSem.ClaimMapViews
import Derived.JoinedTies
import Derived.KernelRfl
namespace Go.Proofs.YtdfgdnaejnngoaaGreat
/- THE CELL 'sum', in the pinned program and in every row, IS THE sha256 OF THE DUMP (.gsa) THAT YtdfgdnaejnngoaaGreatProg.lean LOADS. Nothing in Lean hashes anything: it is a label: what it is worth is what the hold of that sum in a sandbox is worth. -/
noncomputable def Tryz.pinned : Pinned := { name := "ytdfgdnaejnngoaagreat", sum := "d651d6c48b5c7856b753a71661f849abbc4bf834f3067b936bc64269d154a283", checked := Tryz.checked }
namespace Rows
def none {H : Type} : Left H := { results := [], args := [] }

/-- 'grangerlaw26.ModelBegins': WHATEVER THE INPUT: true; the input reads as it did. -/
def modelBeginsSpec : ChangeSpec := { name := "modelBegins", fn := fun _ => fun
  | [d1, d2, d3] => { results := [.lit (.bool true)], args := [d1, d2, d3] }
  | _ => none }
def modelBeginsRow : OpenClaim := { program := "ytdfgdnaejnngoaagreat", sum := "d651d6c48b5c7856b753a71661f849abbc4bf834f3067b936bc64269d154a283", func := "granger/grangerlaw26.ModelBegins", spec := "modelBegins", inPlace := ["internal/abi.NoEscape", "slices.overlaps[granger/api.Item]"], unfollowed := true, recurses := true, apart := false }
def ModelBeginsSaid : Prop := modelBeginsRow.holds Tryz.pinned (OpenSpec.ofChange modelBeginsSpec)

/-- ITS FALSE NEIGHBOUR: 'it returns false'. Refute it at one input. -/
def modelBeginsWrong : ChangeSpec := { name := "modelBegins", fn := fun _ => fun
  | [d1, d2, d3] => { results := [.lit (.bool false)], args := [d1, d2, d3] }
  | _ => none }
def ModelBeginsWrongFalsely : Prop := modelBeginsRow.holds Tryz.pinned (OpenSpec.ofChange modelBeginsWrong)

/-- 'grangerlaw26.ModelRefuses': WHATEVER THE INPUT: true; the input reads as it did. -/
def modelRefusesSpec : ChangeSpec := { name := "modelRefuses", fn := fun _ => fun
  | [d1, d2] => { results := [.lit (.bool true)], args := [d1, d2] }
  | _ => none }
def modelRefusesRow : OpenClaim := { program := "ytdfgdnaejnngoaagreat", sum := "d651d6c48b5c7856b753a71661f849abbc4bf834f3067b936bc64269d154a283", func := "granger/grangerlaw26.ModelRefuses", spec := "modelRefuses", inPlace := ["internal/abi.NoEscape", "slices.overlaps[granger/api.Item]"], unfollowed := true, recurses := true, apart := false }
def ModelRefusesSaid : Prop := modelRefusesRow.holds Tryz.pinned (OpenSpec.ofChange modelRefusesSpec)

/-- ITS FALSE NEIGHBOUR: 'it returns false'. Refute it at one input. -/
def modelRefusesWrong : ChangeSpec := { name := "modelRefuses", fn := fun _ => fun
  | [d1, d2] => { results := [.lit (.bool false)], args := [d1, d2] }
  | _ => none }
def ModelRefusesWrongFalsely : Prop := modelRefusesRow.holds Tryz.pinned (OpenSpec.ofChange modelRefusesWrong)

/-- 'grangerlaw33.PruneExact': WHATEVER THE INPUT: true; the input reads as it did. -/
def pruneExactSpec : ChangeSpec := { name := "pruneExact", fn := fun _ => fun
  | [d1, d2] => { results := [.lit (.bool true)], args := [d1, d2] }
  | _ => none }
def pruneExactRow : OpenClaim := { program := "ytdfgdnaejnngoaagreat", sum := "d651d6c48b5c7856b753a71661f849abbc4bf834f3067b936bc64269d154a283", func := "granger/grangerlaw33.PruneExact", spec := "pruneExact", inPlace := ["internal/abi.NoEscape", "slices.overlaps[granger/api.Item]"], unfollowed := true, recurses := true, apart := false }
def PruneExactSaid : Prop := pruneExactRow.holds Tryz.pinned (OpenSpec.ofChange pruneExactSpec)

/-- ITS FALSE NEIGHBOUR: 'it returns false'. Refute it at one input. -/
def pruneExactWrong : ChangeSpec := { name := "pruneExact", fn := fun _ => fun
  | [d1, d2] => { results := [.lit (.bool false)], args := [d1, d2] }
  | _ => none }
def PruneExactWrongFalsely : Prop := pruneExactRow.holds Tryz.pinned (OpenSpec.ofChange pruneExactWrong)

/-- 'grangerlaw33.PruneSame': WHATEVER THE INPUT: true; the input reads as it did. -/
def pruneSameSpec : ChangeSpec := { name := "pruneSame", fn := fun _ => fun
  | [d1, d2] => { results := [.lit (.bool true)], args := [d1, d2] }
  | _ => none }
def pruneSameRow : OpenClaim := { program := "ytdfgdnaejnngoaagreat", sum := "d651d6c48b5c7856b753a71661f849abbc4bf834f3067b936bc64269d154a283", func := "granger/grangerlaw33.PruneSame", spec := "pruneSame", inPlace := ["internal/abi.NoEscape", "slices.overlaps[granger/api.Item]"], unfollowed := true, recurses := true, apart := false }
def PruneSameSaid : Prop := pruneSameRow.holds Tryz.pinned (OpenSpec.ofChange pruneSameSpec)

/-- ITS FALSE NEIGHBOUR: 'it returns false'. Refute it at one input. -/
def pruneSameWrong : ChangeSpec := { name := "pruneSame", fn := fun _ => fun
  | [d1, d2] => { results := [.lit (.bool false)], args := [d1, d2] }
  | _ => none }
def PruneSameWrongFalsely : Prop := pruneSameRow.holds Tryz.pinned (OpenSpec.ofChange pruneSameWrong)

/-- 'grangerlaw33.PruneLeast': WHATEVER THE INPUT: true; the input reads as it did. -/
def pruneLeastSpec : ChangeSpec := { name := "pruneLeast", fn := fun _ => fun
  | [d1, d2] => { results := [.lit (.bool true)], args := [d1, d2] }
  | _ => none }
def pruneLeastRow : OpenClaim := { program := "ytdfgdnaejnngoaagreat", sum := "d651d6c48b5c7856b753a71661f849abbc4bf834f3067b936bc64269d154a283", func := "granger/grangerlaw33.PruneLeast", spec := "pruneLeast", inPlace := ["internal/abi.NoEscape", "slices.overlaps[granger/api.Item]"], unfollowed := true, recurses := true, apart := false }
def PruneLeastSaid : Prop := pruneLeastRow.holds Tryz.pinned (OpenSpec.ofChange pruneLeastSpec)

/-- ITS FALSE NEIGHBOUR: 'it returns false'. Refute it at one input. -/
def pruneLeastWrong : ChangeSpec := { name := "pruneLeast", fn := fun _ => fun
  | [d1, d2] => { results := [.lit (.bool false)], args := [d1, d2] }
  | _ => none }
def PruneLeastWrongFalsely : Prop := pruneLeastRow.holds Tryz.pinned (OpenSpec.ofChange pruneLeastWrong)

/-- 'grangerlaw26.ModelExact': WHATEVER THE INPUT: true; the input reads as it did. -/
def modelExactSpec : ChangeSpec := { name := "modelExact", fn := fun _ => fun
  | [d1, d2] => { results := [.lit (.bool true)], args := [d1, d2] }
  | _ => none }
def modelExactRow : OpenClaim := { program := "ytdfgdnaejnngoaagreat", sum := "d651d6c48b5c7856b753a71661f849abbc4bf834f3067b936bc64269d154a283", func := "granger/grangerlaw26.ModelExact", spec := "modelExact", inPlace := ["internal/abi.NoEscape", "slices.overlaps[granger/api.Item]"], unfollowed := true, recurses := true, apart := false }
def ModelExactSaid : Prop := modelExactRow.holds Tryz.pinned (OpenSpec.ofChange modelExactSpec)

/-- ITS FALSE NEIGHBOUR: 'it returns false'. Refute it at one input. -/
def modelExactWrong : ChangeSpec := { name := "modelExact", fn := fun _ => fun
  | [d1, d2] => { results := [.lit (.bool false)], args := [d1, d2] }
  | _ => none }
def ModelExactWrongFalsely : Prop := modelExactRow.holds Tryz.pinned (OpenSpec.ofChange modelExactWrong)

/-- 'grangerlaw26.ModelNil': WHATEVER THE INPUT: true; the input reads as it did. -/
def modelNilSpec : ChangeSpec := { name := "modelNil", fn := fun _ => fun
  | [d1, d2] => { results := [.lit (.bool true)], args := [d1, d2] }
  | _ => none }
def modelNilRow : OpenClaim := { program := "ytdfgdnaejnngoaagreat", sum := "d651d6c48b5c7856b753a71661f849abbc4bf834f3067b936bc64269d154a283", func := "granger/grangerlaw26.ModelNil", spec := "modelNil", inPlace := ["internal/abi.NoEscape", "slices.overlaps[granger/api.Item]"], unfollowed := true, recurses := true, apart := false }
def ModelNilSaid : Prop := modelNilRow.holds Tryz.pinned (OpenSpec.ofChange modelNilSpec)

/-- ITS FALSE NEIGHBOUR: 'it returns false'. Refute it at one input. -/
def modelNilWrong : ChangeSpec := { name := "modelNil", fn := fun _ => fun
  | [d1, d2] => { results := [.lit (.bool false)], args := [d1, d2] }
  | _ => none }
def ModelNilWrongFalsely : Prop := modelNilRow.holds Tryz.pinned (OpenSpec.ofChange modelNilWrong)

/- THE SECOND FORM. 'bulk': how many values and letters a reading holds, each counted each time it is reached (what is shared counts as often as it is met; a slice's spare places count too). A statement '..UptoSaid' is the law's where the arguments, and the package variables that the reading takes, are together of bulk at most 1048576: NARROWER than '..Said'. Prove '..Said' where nothing that the law and all that it calls make is longer than what came in: it says more and counts as full. Else prove '..UptoSaid'. A law counts once. -/
mutual
def uptoBulk {H : Type} : DataW H → Nat
  | .lit (.string bytes) => bytes.length + 1
  | .lit _ => 1
  | .nil => 1
  | .ptr d => uptoBulk d + 1
  | .slice elems spare => uptoBulkAll elems + uptoBulkAll spare + 1
  | .agg parts => uptoBulkAll parts + 1
  | .iface _ d => uptoBulk d + 1
  | .map entries => uptoBulkEntries entries + 1
  | .held _ => 1
def uptoBulkAll {H : Type} : List (DataW H) → Nat
  | [] => 0
  | d :: r => uptoBulk d + uptoBulkAll r
def uptoBulkEntries {H : Type} : List (Lit × DataW H) → Nat
  | [] => 0
  | x :: r => uptoBulkEntry x + uptoBulkEntries r
def uptoBulkEntry {H : Type} : Lit × DataW H → Nat
  | (.string bytes, d) => bytes.length + uptoBulk d + 1
  | (_, d) => uptoBulk d + 1
 end
def uptoSmall : (H : Type) → List (DataW H) → Bool := fun _ ds => decide (uptoBulkAll ds ≤ 1048576)
def OpenSpec.upto (s : _root_.Go.ChangeSpec) : _root_.Go.OpenSpec := { _root_.Go.OpenSpec.ofChange s with cond := some uptoSmall }

/-- 'grangerlaw26.ModelBegins', WHERE WHAT IT READS IS OF BULK AT MOST 1048576: true; the input reads as it did. -/
def modelBeginsUptoRow : OpenClaim := { program := "ytdfgdnaejnngoaagreat", sum := "d651d6c48b5c7856b753a71661f849abbc4bf834f3067b936bc64269d154a283", func := "granger/grangerlaw26.ModelBegins", spec := "modelBegins", inPlace := ["internal/abi.NoEscape", "slices.overlaps[granger/api.Item]"], unfollowed := true, recurses := true, apart := false, narrowed := true }
def ModelBeginsUptoSaid : Prop := modelBeginsUptoRow.holds Tryz.pinned (OpenSpec.upto modelBeginsSpec)

/-- 'grangerlaw26.ModelRefuses', WHERE WHAT IT READS IS OF BULK AT MOST 1048576: true; the input reads as it did. -/
def modelRefusesUptoRow : OpenClaim := { program := "ytdfgdnaejnngoaagreat", sum := "d651d6c48b5c7856b753a71661f849abbc4bf834f3067b936bc64269d154a283", func := "granger/grangerlaw26.ModelRefuses", spec := "modelRefuses", inPlace := ["internal/abi.NoEscape", "slices.overlaps[granger/api.Item]"], unfollowed := true, recurses := true, apart := false, narrowed := true }
def ModelRefusesUptoSaid : Prop := modelRefusesUptoRow.holds Tryz.pinned (OpenSpec.upto modelRefusesSpec)

/-- 'grangerlaw33.PruneExact', WHERE WHAT IT READS IS OF BULK AT MOST 1048576: true; the input reads as it did. -/
def pruneExactUptoRow : OpenClaim := { program := "ytdfgdnaejnngoaagreat", sum := "d651d6c48b5c7856b753a71661f849abbc4bf834f3067b936bc64269d154a283", func := "granger/grangerlaw33.PruneExact", spec := "pruneExact", inPlace := ["internal/abi.NoEscape", "slices.overlaps[granger/api.Item]"], unfollowed := true, recurses := true, apart := false, narrowed := true }
def PruneExactUptoSaid : Prop := pruneExactUptoRow.holds Tryz.pinned (OpenSpec.upto pruneExactSpec)

/-- 'grangerlaw33.PruneSame', WHERE WHAT IT READS IS OF BULK AT MOST 1048576: true; the input reads as it did. -/
def pruneSameUptoRow : OpenClaim := { program := "ytdfgdnaejnngoaagreat", sum := "d651d6c48b5c7856b753a71661f849abbc4bf834f3067b936bc64269d154a283", func := "granger/grangerlaw33.PruneSame", spec := "pruneSame", inPlace := ["internal/abi.NoEscape", "slices.overlaps[granger/api.Item]"], unfollowed := true, recurses := true, apart := false, narrowed := true }
def PruneSameUptoSaid : Prop := pruneSameUptoRow.holds Tryz.pinned (OpenSpec.upto pruneSameSpec)

/-- 'grangerlaw33.PruneLeast', WHERE WHAT IT READS IS OF BULK AT MOST 1048576: true; the input reads as it did. -/
def pruneLeastUptoRow : OpenClaim := { program := "ytdfgdnaejnngoaagreat", sum := "d651d6c48b5c7856b753a71661f849abbc4bf834f3067b936bc64269d154a283", func := "granger/grangerlaw33.PruneLeast", spec := "pruneLeast", inPlace := ["internal/abi.NoEscape", "slices.overlaps[granger/api.Item]"], unfollowed := true, recurses := true, apart := false, narrowed := true }
def PruneLeastUptoSaid : Prop := pruneLeastUptoRow.holds Tryz.pinned (OpenSpec.upto pruneLeastSpec)

/-- 'grangerlaw26.ModelExact', WHERE WHAT IT READS IS OF BULK AT MOST 1048576: true; the input reads as it did. -/
def modelExactUptoRow : OpenClaim := { program := "ytdfgdnaejnngoaagreat", sum := "d651d6c48b5c7856b753a71661f849abbc4bf834f3067b936bc64269d154a283", func := "granger/grangerlaw26.ModelExact", spec := "modelExact", inPlace := ["internal/abi.NoEscape", "slices.overlaps[granger/api.Item]"], unfollowed := true, recurses := true, apart := false, narrowed := true }
def ModelExactUptoSaid : Prop := modelExactUptoRow.holds Tryz.pinned (OpenSpec.upto modelExactSpec)

/-- 'grangerlaw26.ModelNil', WHERE WHAT IT READS IS OF BULK AT MOST 1048576: true; the input reads as it did. -/
def modelNilUptoRow : OpenClaim := { program := "ytdfgdnaejnngoaagreat", sum := "d651d6c48b5c7856b753a71661f849abbc4bf834f3067b936bc64269d154a283", func := "granger/grangerlaw26.ModelNil", spec := "modelNil", inPlace := ["internal/abi.NoEscape", "slices.overlaps[granger/api.Item]"], unfollowed := true, recurses := true, apart := false, narrowed := true }
def ModelNilUptoSaid : Prop := modelNilUptoRow.holds Tryz.pinned (OpenSpec.upto modelNilSpec)

end Rows
end Go.Proofs.YtdfgdnaejnngoaaGreat
