/-
  No cell of these rows narrows 'for every input' (looked for: loops, veiled, ifaces, maps, wideKeys, modest, calm, conditions, laid).
  DERIVED. THE GIVEN ROWS OF THIS SEAT. 8 by the template 'for every input the law returns true; each argument reads behind the call as it read before'; 0 by the template 'total and deterministic' (their statements: YtbbfcfpbdgibaaaTotals.lean).
  GIVEN WITH THE SEED: the statements are not yours to turn. If you find one false, say at which input.
  Laid BY PROGRAM, IN A SANDBOX (cutbox-rows.mjs): the forced cells as the released guide's own fill.sh prints them over the translation 6dd4094b014a4644… (all of the seat's roots in one cut). By AI agents, Wed Nov 11 2026. No macro, syntax, notation, axiom, sorry.
-/
import Derived.Test.YtbbfcfpbdgibaaaChecked
import GoSem.Claim
import GoSem.ClaimJoined
import GoSem.ClaimMapViews
import Derived.JoinedTies
import Derived.KernelRfl
namespace Go.Proofs.Ytbbfcfpbdgibaaa
/- THE CELL 'sum', in the pinned program and in every row, IS THE sha256 OF THE DUMP (.gsa) THAT YtbbfcfpbdgibaaaProg.lean LOADS. Nothing in Lean hashes anything: it is a label: what it is worth is what the hold of that sum in a sandbox is worth. -/
noncomputable def Try.pinned : Pinned := { name := "ytbbfcfpbdgibaaa", sum := "6dd4094b014a46447a395b789a0f20689a396ea614c43c9f37150346a21e60df", checked := Try.checked }
namespace Rows
def none {H : Type} : Left H := { results := [], args := [] }

/-- 'camshaftlaw01.NumTells': WHATEVER THE INPUT: true; the input reads as it did. -/
def numTellsSpec : ChangeSpec := { name := "numTells", fn := fun _ => fun
  | [d1, d2, d3] => { results := [.lit (.bool true)], args := [d1, d2, d3] }
  | _ => none }
def numTellsRow : OpenClaim := { program := "ytbbfcfpbdgibaaa", sum := "6dd4094b014a46447a395b789a0f20689a396ea614c43c9f37150346a21e60df", func := "camshaft/camshaftlaw01.NumTells", spec := "numTells", unfollowed := true, recurses := true, apart := false }
def NumTellsSaid : Prop := numTellsRow.holds Try.pinned (OpenSpec.ofChange numTellsSpec)

/-- ITS FALSE NEIGHBOUR: 'it returns false'. Refute it at one input. -/
def numTellsWrong : ChangeSpec := { name := "numTells", fn := fun _ => fun
  | [d1, d2, d3] => { results := [.lit (.bool false)], args := [d1, d2, d3] }
  | _ => none }
def NumTellsWrongFalsely : Prop := numTellsRow.holds Try.pinned (OpenSpec.ofChange numTellsWrong)

/-- 'camshaftlaw01.NumDivides': WHATEVER THE INPUT: true; the input reads as it did. -/
def numDividesSpec : ChangeSpec := { name := "numDivides", fn := fun _ => fun
  | [d1, d2] => { results := [.lit (.bool true)], args := [d1, d2] }
  | _ => none }
def numDividesRow : OpenClaim := { program := "ytbbfcfpbdgibaaa", sum := "6dd4094b014a46447a395b789a0f20689a396ea614c43c9f37150346a21e60df", func := "camshaft/camshaftlaw01.NumDivides", spec := "numDivides", unfollowed := true, recurses := true, apart := false }
def NumDividesSaid : Prop := numDividesRow.holds Try.pinned (OpenSpec.ofChange numDividesSpec)

/-- ITS FALSE NEIGHBOUR: 'it returns false'. Refute it at one input. -/
def numDividesWrong : ChangeSpec := { name := "numDivides", fn := fun _ => fun
  | [d1, d2] => { results := [.lit (.bool false)], args := [d1, d2] }
  | _ => none }
def NumDividesWrongFalsely : Prop := numDividesRow.holds Try.pinned (OpenSpec.ofChange numDividesWrong)

/-- 'camshaftlaw01.NumBack': WHATEVER THE INPUT: true; the input reads as it did. -/
def numBackSpec : ChangeSpec := { name := "numBack", fn := fun _ => fun
  | [d1, d2, d3] => { results := [.lit (.bool true)], args := [d1, d2, d3] }
  | _ => none }
def numBackRow : OpenClaim := { program := "ytbbfcfpbdgibaaa", sum := "6dd4094b014a46447a395b789a0f20689a396ea614c43c9f37150346a21e60df", func := "camshaft/camshaftlaw01.NumBack", spec := "numBack", unfollowed := true, recurses := true, apart := false }
def NumBackSaid : Prop := numBackRow.holds Try.pinned (OpenSpec.ofChange numBackSpec)

/-- ITS FALSE NEIGHBOUR: 'it returns false'. Refute it at one input. -/
def numBackWrong : ChangeSpec := { name := "numBack", fn := fun _ => fun
  | [d1, d2, d3] => { results := [.lit (.bool false)], args := [d1, d2, d3] }
  | _ => none }
def NumBackWrongFalsely : Prop := numBackRow.holds Try.pinned (OpenSpec.ofChange numBackWrong)

/-- 'camshaftlaw01.NumSides': WHATEVER THE INPUT: true; the input reads as it did. -/
def numSidesSpec : ChangeSpec := { name := "numSides", fn := fun _ => fun
  | [d1, d2] => { results := [.lit (.bool true)], args := [d1, d2] }
  | _ => none }
def numSidesRow : OpenClaim := { program := "ytbbfcfpbdgibaaa", sum := "6dd4094b014a46447a395b789a0f20689a396ea614c43c9f37150346a21e60df", func := "camshaft/camshaftlaw01.NumSides", spec := "numSides", unfollowed := true, recurses := true, apart := false }
def NumSidesSaid : Prop := numSidesRow.holds Try.pinned (OpenSpec.ofChange numSidesSpec)

/-- ITS FALSE NEIGHBOUR: 'it returns false'. Refute it at one input. -/
def numSidesWrong : ChangeSpec := { name := "numSides", fn := fun _ => fun
  | [d1, d2] => { results := [.lit (.bool false)], args := [d1, d2] }
  | _ => none }
def NumSidesWrongFalsely : Prop := numSidesRow.holds Try.pinned (OpenSpec.ofChange numSidesWrong)

/-- 'camshaftlaw01.NumShifts': WHATEVER THE INPUT: true; the input reads as it did. -/
def numShiftsSpec : ChangeSpec := { name := "numShifts", fn := fun _ => fun
  | [d1, d2, d3] => { results := [.lit (.bool true)], args := [d1, d2, d3] }
  | _ => none }
def numShiftsRow : OpenClaim := { program := "ytbbfcfpbdgibaaa", sum := "6dd4094b014a46447a395b789a0f20689a396ea614c43c9f37150346a21e60df", func := "camshaft/camshaftlaw01.NumShifts", spec := "numShifts", unfollowed := true, recurses := true, apart := false }
def NumShiftsSaid : Prop := numShiftsRow.holds Try.pinned (OpenSpec.ofChange numShiftsSpec)

/-- ITS FALSE NEIGHBOUR: 'it returns false'. Refute it at one input. -/
def numShiftsWrong : ChangeSpec := { name := "numShifts", fn := fun _ => fun
  | [d1, d2, d3] => { results := [.lit (.bool false)], args := [d1, d2, d3] }
  | _ => none }
def NumShiftsWrongFalsely : Prop := numShiftsRow.holds Try.pinned (OpenSpec.ofChange numShiftsWrong)

/-- 'camshaftlaw01.NumOrders': WHATEVER THE INPUT: true; the input reads as it did. -/
def numOrdersSpec : ChangeSpec := { name := "numOrders", fn := fun _ => fun
  | [d1, d2, d3] => { results := [.lit (.bool true)], args := [d1, d2, d3] }
  | _ => none }
def numOrdersRow : OpenClaim := { program := "ytbbfcfpbdgibaaa", sum := "6dd4094b014a46447a395b789a0f20689a396ea614c43c9f37150346a21e60df", func := "camshaft/camshaftlaw01.NumOrders", spec := "numOrders", unfollowed := true, recurses := true, apart := false }
def NumOrdersSaid : Prop := numOrdersRow.holds Try.pinned (OpenSpec.ofChange numOrdersSpec)

/-- ITS FALSE NEIGHBOUR: 'it returns false'. Refute it at one input. -/
def numOrdersWrong : ChangeSpec := { name := "numOrders", fn := fun _ => fun
  | [d1, d2, d3] => { results := [.lit (.bool false)], args := [d1, d2, d3] }
  | _ => none }
def NumOrdersWrongFalsely : Prop := numOrdersRow.holds Try.pinned (OpenSpec.ofChange numOrdersWrong)

/-- 'camshaftlaw01.NumBits': WHATEVER THE INPUT: true; the input reads as it did. -/
def numBitsSpec : ChangeSpec := { name := "numBits", fn := fun _ => fun
  | [d1, d2] => { results := [.lit (.bool true)], args := [d1, d2] }
  | _ => none }
def numBitsRow : OpenClaim := { program := "ytbbfcfpbdgibaaa", sum := "6dd4094b014a46447a395b789a0f20689a396ea614c43c9f37150346a21e60df", func := "camshaft/camshaftlaw01.NumBits", spec := "numBits", unfollowed := true, recurses := true, apart := false }
def NumBitsSaid : Prop := numBitsRow.holds Try.pinned (OpenSpec.ofChange numBitsSpec)

/-- ITS FALSE NEIGHBOUR: 'it returns false'. Refute it at one input. -/
def numBitsWrong : ChangeSpec := { name := "numBits", fn := fun _ => fun
  | [d1, d2] => { results := [.lit (.bool false)], args := [d1, d2] }
  | _ => none }
def NumBitsWrongFalsely : Prop := numBitsRow.holds Try.pinned (OpenSpec.ofChange numBitsWrong)

/-- 'camshaftlaw01.NumNots': WHATEVER THE INPUT: true; the input reads as it did. -/
def numNotsSpec : ChangeSpec := { name := "numNots", fn := fun _ => fun
  | [d1, d2, d3] => { results := [.lit (.bool true)], args := [d1, d2, d3] }
  | _ => none }
def numNotsRow : OpenClaim := { program := "ytbbfcfpbdgibaaa", sum := "6dd4094b014a46447a395b789a0f20689a396ea614c43c9f37150346a21e60df", func := "camshaft/camshaftlaw01.NumNots", spec := "numNots", unfollowed := true, recurses := true, apart := false }
def NumNotsSaid : Prop := numNotsRow.holds Try.pinned (OpenSpec.ofChange numNotsSpec)

/-- ITS FALSE NEIGHBOUR: 'it returns false'. Refute it at one input. -/
def numNotsWrong : ChangeSpec := { name := "numNots", fn := fun _ => fun
  | [d1, d2, d3] => { results := [.lit (.bool false)], args := [d1, d2, d3] }
  | _ => none }
def NumNotsWrongFalsely : Prop := numNotsRow.holds Try.pinned (OpenSpec.ofChange numNotsWrong)

/- THE SECOND FORM. 'bulk': how many values and letters a reading holds, each counted each time it is reached (what is shared counts as often as it is met; a slice's spare places count too). A statement '..UptoSaid' is the law's where the arguments, and the package variables that the reading takes, are together of bulk at most 1048576: NARROWER than '..Said'. Prove '..Said' where nothing that the law and all that it calls make is longer than what came in: it says more and counts as full. Else prove '..UptoSaid'. A law counts once. -/
mutual
def uptoBulk {H : Type} : DataW H → Nat
  | .lit (.string bytes) => bytes.length + 1
  | .lit _ => 1
  | .nil => 1
  | .ptr d => uptoBulk d + 1
  | .slice elems spare => uptoBulkAll elems + uptoBulkAll spare + 1
  | .agg parts => uptoBulkAll parts + 1
  | .iface _ d => uptoBulk d + 1
  | .map entries => uptoBulkEntries entries + 1
  | .held _ => 1
def uptoBulkAll {H : Type} : List (DataW H) → Nat
  | [] => 0
  | d :: r => uptoBulk d + uptoBulkAll r
def uptoBulkEntries {H : Type} : List (Lit × DataW H) → Nat
  | [] => 0
  | x :: r => uptoBulkEntry x + uptoBulkEntries r
def uptoBulkEntry {H : Type} : Lit × DataW H → Nat
  | (.string bytes, d) => bytes.length + uptoBulk d + 1
  | (_, d) => uptoBulk d + 1
 end
def uptoSmall : (H : Type) → List (DataW H) → Bool := fun _ ds => decide (uptoBulkAll ds ≤ 1048576)
def OpenSpec.upto (s : _root_.Go.ChangeSpec) : _root_.Go.OpenSpec := { _root_.Go.OpenSpec.ofChange s with cond := some uptoSmall }

/-- 'camshaftlaw01.NumTells', WHERE WHAT IT READS IS OF BULK AT MOST 1048576: true; the input reads as it did. -/
def numTellsUptoRow : OpenClaim := { program := "ytbbfcfpbdgibaaa", sum := "6dd4094b014a46447a395b789a0f20689a396ea614c43c9f37150346a21e60df", func := "camshaft/camshaftlaw01.NumTells", spec := "numTells", unfollowed := true, recurses := true, apart := false, narrowed := true }
def NumTellsUptoSaid : Prop := numTellsUptoRow.holds Try.pinned (OpenSpec.upto numTellsSpec)

/-- 'camshaftlaw01.NumDivides', WHERE WHAT IT READS IS OF BULK AT MOST 1048576: true; the input reads as it did. -/
def numDividesUptoRow : OpenClaim := { program := "ytbbfcfpbdgibaaa", sum := "6dd4094b014a46447a395b789a0f20689a396ea614c43c9f37150346a21e60df", func := "camshaft/camshaftlaw01.NumDivides", spec := "numDivides", unfollowed := true, recurses := true, apart := false, narrowed := true }
def NumDividesUptoSaid : Prop := numDividesUptoRow.holds Try.pinned (OpenSpec.upto numDividesSpec)

/-- 'camshaftlaw01.NumBack', WHERE WHAT IT READS IS OF BULK AT MOST 1048576: true; the input reads as it did. -/
def numBackUptoRow : OpenClaim := { program := "ytbbfcfpbdgibaaa", sum := "6dd4094b014a46447a395b789a0f20689a396ea614c43c9f37150346a21e60df", func := "camshaft/camshaftlaw01.NumBack", spec := "numBack", unfollowed := true, recurses := true, apart := false, narrowed := true }
def NumBackUptoSaid : Prop := numBackUptoRow.holds Try.pinned (OpenSpec.upto numBackSpec)

/-- 'camshaftlaw01.NumSides', WHERE WHAT IT READS IS OF BULK AT MOST 1048576: true; the input reads as it did. -/
def numSidesUptoRow : OpenClaim := { program := "ytbbfcfpbdgibaaa", sum := "6dd4094b014a46447a395b789a0f20689a396ea614c43c9f37150346a21e60df", func := "camshaft/camshaftlaw01.NumSides", spec := "numSides", unfollowed := true, recurses := true, apart := false, narrowed := true }
def NumSidesUptoSaid : Prop := numSidesUptoRow.holds Try.pinned (OpenSpec.upto numSidesSpec)

/-- 'camshaftlaw01.NumShifts', WHERE WHAT IT READS IS OF BULK AT MOST 1048576: true; the input reads as it did. -/
def numShiftsUptoRow : OpenClaim := { program := "ytbbfcfpbdgibaaa", sum := "6dd4094b014a46447a395b789a0f20689a396ea614c43c9f37150346a21e60df", func := "camshaft/camshaftlaw01.NumShifts", spec := "numShifts", unfollowed := true, recurses := true, apart := false, narrowed := true }
def NumShiftsUptoSaid : Prop := numShiftsUptoRow.holds Try.pinned (OpenSpec.upto numShiftsSpec)

/-- 'camshaftlaw01.NumOrders', WHERE WHAT IT READS IS OF BULK AT MOST 1048576: true; the input reads as it did. -/
def numOrdersUptoRow : OpenClaim := { program := "ytbbfcfpbdgibaaa", sum := "6dd4094b014a46447a395b789a0f20689a396ea614c43c9f37150346a21e60df", func := "camshaft/camshaftlaw01.NumOrders", spec := "numOrders", unfollowed := true, recurses := true, apart := false, narrowed := true }
def NumOrdersUptoSaid : Prop := numOrdersUptoRow.holds Try.pinned (OpenSpec.upto numOrdersSpec)

/-- 'camshaftlaw01.NumBits', WHERE WHAT IT READS IS OF BULK AT MOST 1048576: true; the input reads as it did. -/
def numBitsUptoRow : OpenClaim := { program := "ytbbfcfpbdgibaaa", sum := "6dd4094b014a46447a395b789a0f20689a396ea614c43c9f37150346a21e60df", func := "camshaft/camshaftlaw01.NumBits", spec := "numBits", unfollowed := true, recurses := true, apart := false, narrowed := true }
def NumBitsUptoSaid : Prop := numBitsUptoRow.holds Try.pinned (OpenSpec.upto numBitsSpec)

/-- 'camshaftlaw01.NumNots', WHERE WHAT IT READS IS OF BULK AT MOST 1048576: true; the input reads as it did. -/
def numNotsUptoRow : OpenClaim := { program := "ytbbfcfpbdgibaaa", sum := "6dd4094b014a46447a395b789a0f20689a396ea614c43c9f37150346a21e60df", func := "camshaft/camshaftlaw01.NumNots", spec := "numNots", unfollowed := true, recurses := true, apart := false, narrowed := true }
def NumNotsUptoSaid : Prop := numNotsUptoRow.holds Try.pinned (OpenSpec.upto numNotsSpec)

end Rows
end Go.Proofs.Ytbbfcfpbdgibaaa
