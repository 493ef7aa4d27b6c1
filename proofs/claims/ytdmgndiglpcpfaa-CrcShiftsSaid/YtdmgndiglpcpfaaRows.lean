/-
  No cell of these rows narrows 'for every input' (looked for: loops, veiled, ifaces, maps, wideKeys, modest, calm, conditions, laid).
  DERIVED. THE GIVEN ROWS OF THIS SEAT. 7 by the template 'for every input the law returns true; each argument reads behind the call as it read before'; 0 by the template 'total and deterministic' (their statements: YtdmgndiglpcpfaaTotals.lean).
  GIVEN WITH THE SEED: the statements are not yours to turn. If you find one false, say at which input.
  Laid BY PROGRAM, IN A SANDBOX (cutbox-rows.mjs): the forced cells as the released guide's own fill.sh prints them over the translation ede9e07a60c5c2a0… (all of the seat's roots in one cut). By AI agents, Wed Nov 11 2026. No macro, syntax, notation, axiom, sorry.
-/
import Derived.Test.YtdmgndiglpcpfaaChecked
import GoSem.Claim
import GoSem.ClaimJoined
import GoSem.ClaimMapViews
import Derived.JoinedTies
import Derived.KernelRfl
namespace Go.Proofs.Ytdmgndiglpcpfaa
/- THE CELL 'sum', in the pinned program and in every row, IS THE sha256 OF THE DUMP (.gsa) THAT YtdmgndiglpcpfaaProg.lean LOADS. Nothing in Lean hashes anything: it is a label: what it is worth is what the hold of that sum in a sandbox is worth. -/
noncomputable def Try.pinned : Pinned := { name := "ytdmgndiglpcpfaa", sum := "ede9e07a60c5c2a023fbffa4b92201c8cd128b6a518fa233e7cc5e1c0a67ffa5", checked := Try.checked }
namespace Rows
def none {H : Type} : Left H := { results := [], args := [] }

/-- 'camshaftlaw03.CrcTells': WHATEVER THE INPUT: true; the input reads as it did. -/
def crcTellsSpec : ChangeSpec := { name := "crcTells", fn := fun _ => fun
  | [d1, d2] => { results := [.lit (.bool true)], args := [d1, d2] }
  | _ => none }
def crcTellsRow : OpenClaim := { program := "ytdmgndiglpcpfaa", sum := "ede9e07a60c5c2a023fbffa4b92201c8cd128b6a518fa233e7cc5e1c0a67ffa5", func := "camshaft/camshaftlaw03.CrcTells", spec := "crcTells", apart := false }
def CrcTellsSaid : Prop := crcTellsRow.holds Try.pinned (OpenSpec.ofChange crcTellsSpec)

/-- ITS FALSE NEIGHBOUR: 'it returns false'. Refute it at one input. -/
def crcTellsWrong : ChangeSpec := { name := "crcTells", fn := fun _ => fun
  | [d1, d2] => { results := [.lit (.bool false)], args := [d1, d2] }
  | _ => none }
def CrcTellsWrongFalsely : Prop := crcTellsRow.holds Try.pinned (OpenSpec.ofChange crcTellsWrong)

/-- 'camshaftlaw03.CrcOn': WHATEVER THE INPUT: true; the input reads as it did. -/
def crcOnSpec : ChangeSpec := { name := "crcOn", fn := fun _ => fun
  | [d1, d2, d3] => { results := [.lit (.bool true)], args := [d1, d2, d3] }
  | _ => none }
def crcOnRow : OpenClaim := { program := "ytdmgndiglpcpfaa", sum := "ede9e07a60c5c2a023fbffa4b92201c8cd128b6a518fa233e7cc5e1c0a67ffa5", func := "camshaft/camshaftlaw03.CrcOn", spec := "crcOn", apart := false }
def CrcOnSaid : Prop := crcOnRow.holds Try.pinned (OpenSpec.ofChange crcOnSpec)

/-- ITS FALSE NEIGHBOUR: 'it returns false'. Refute it at one input. -/
def crcOnWrong : ChangeSpec := { name := "crcOn", fn := fun _ => fun
  | [d1, d2, d3] => { results := [.lit (.bool false)], args := [d1, d2, d3] }
  | _ => none }
def CrcOnWrongFalsely : Prop := crcOnRow.holds Try.pinned (OpenSpec.ofChange crcOnWrong)

/-- 'camshaftlaw03.CrcOpens': WHATEVER THE INPUT: true; the input reads as it did. -/
def crcOpensSpec : ChangeSpec := { name := "crcOpens", fn := fun _ => fun
  | [d1, d2, d3] => { results := [.lit (.bool true)], args := [d1, d2, d3] }
  | _ => none }
def crcOpensRow : OpenClaim := { program := "ytdmgndiglpcpfaa", sum := "ede9e07a60c5c2a023fbffa4b92201c8cd128b6a518fa233e7cc5e1c0a67ffa5", func := "camshaft/camshaftlaw03.CrcOpens", spec := "crcOpens", apart := false }
def CrcOpensSaid : Prop := crcOpensRow.holds Try.pinned (OpenSpec.ofChange crcOpensSpec)

/-- ITS FALSE NEIGHBOUR: 'it returns false'. Refute it at one input. -/
def crcOpensWrong : ChangeSpec := { name := "crcOpens", fn := fun _ => fun
  | [d1, d2, d3] => { results := [.lit (.bool false)], args := [d1, d2, d3] }
  | _ => none }
def CrcOpensWrongFalsely : Prop := crcOpensRow.holds Try.pinned (OpenSpec.ofChange crcOpensWrong)

/-- 'camshaftlaw03.CrcShifts': WHATEVER THE INPUT: true; the input reads as it did. -/
def crcShiftsSpec : ChangeSpec := { name := "crcShifts", fn := fun _ => fun
  | [d1, d2, d3] => { results := [.lit (.bool true)], args := [d1, d2, d3] }
  | _ => none }
def crcShiftsRow : OpenClaim := { program := "ytdmgndiglpcpfaa", sum := "ede9e07a60c5c2a023fbffa4b92201c8cd128b6a518fa233e7cc5e1c0a67ffa5", func := "camshaft/camshaftlaw03.CrcShifts", spec := "crcShifts", apart := false }
def CrcShiftsSaid : Prop := crcShiftsRow.holds Try.pinned (OpenSpec.ofChange crcShiftsSpec)

/-- ITS FALSE NEIGHBOUR: 'it returns false'. Refute it at one input. -/
def crcShiftsWrong : ChangeSpec := { name := "crcShifts", fn := fun _ => fun
  | [d1, d2, d3] => { results := [.lit (.bool false)], args := [d1, d2, d3] }
  | _ => none }
def CrcShiftsWrongFalsely : Prop := crcShiftsRow.holds Try.pinned (OpenSpec.ofChange crcShiftsWrong)

/-- 'camshaftlaw03.CrcParts': WHATEVER THE INPUT: true; the input reads as it did. -/
def crcPartsSpec : ChangeSpec := { name := "crcParts", fn := fun _ => fun
  | [d1, d2, d3] => { results := [.lit (.bool true)], args := [d1, d2, d3] }
  | _ => none }
def crcPartsRow : OpenClaim := { program := "ytdmgndiglpcpfaa", sum := "ede9e07a60c5c2a023fbffa4b92201c8cd128b6a518fa233e7cc5e1c0a67ffa5", func := "camshaft/camshaftlaw03.CrcParts", spec := "crcParts", apart := false }
def CrcPartsSaid : Prop := crcPartsRow.holds Try.pinned (OpenSpec.ofChange crcPartsSpec)

/-- ITS FALSE NEIGHBOUR: 'it returns false'. Refute it at one input. -/
def crcPartsWrong : ChangeSpec := { name := "crcParts", fn := fun _ => fun
  | [d1, d2, d3] => { results := [.lit (.bool false)], args := [d1, d2, d3] }
  | _ => none }
def CrcPartsWrongFalsely : Prop := crcPartsRow.holds Try.pinned (OpenSpec.ofChange crcPartsWrong)

/-- 'camshaftlaw03.CrcSwaps': WHATEVER THE INPUT: true; the input reads as it did. -/
def crcSwapsSpec : ChangeSpec := { name := "crcSwaps", fn := fun _ => fun
  | [d1, d2] => { results := [.lit (.bool true)], args := [d1, d2] }
  | _ => none }
def crcSwapsRow : OpenClaim := { program := "ytdmgndiglpcpfaa", sum := "ede9e07a60c5c2a023fbffa4b92201c8cd128b6a518fa233e7cc5e1c0a67ffa5", func := "camshaft/camshaftlaw03.CrcSwaps", spec := "crcSwaps", apart := false }
def CrcSwapsSaid : Prop := crcSwapsRow.holds Try.pinned (OpenSpec.ofChange crcSwapsSpec)

/-- ITS FALSE NEIGHBOUR: 'it returns false'. Refute it at one input. -/
def crcSwapsWrong : ChangeSpec := { name := "crcSwaps", fn := fun _ => fun
  | [d1, d2] => { results := [.lit (.bool false)], args := [d1, d2] }
  | _ => none }
def CrcSwapsWrongFalsely : Prop := crcSwapsRow.holds Try.pinned (OpenSpec.ofChange crcSwapsWrong)

/-- 'camshaftlaw03.CrcLines': WHATEVER THE INPUT: true; the input reads as it did. -/
def crcLinesSpec : ChangeSpec := { name := "crcLines", fn := fun _ => fun
  | [d1, d2, d3] => { results := [.lit (.bool true)], args := [d1, d2, d3] }
  | _ => none }
def crcLinesRow : OpenClaim := { program := "ytdmgndiglpcpfaa", sum := "ede9e07a60c5c2a023fbffa4b92201c8cd128b6a518fa233e7cc5e1c0a67ffa5", func := "camshaft/camshaftlaw03.CrcLines", spec := "crcLines", apart := false }
def CrcLinesSaid : Prop := crcLinesRow.holds Try.pinned (OpenSpec.ofChange crcLinesSpec)

/-- ITS FALSE NEIGHBOUR: 'it returns false'. Refute it at one input. -/
def crcLinesWrong : ChangeSpec := { name := "crcLines", fn := fun _ => fun
  | [d1, d2, d3] => { results := [.lit (.bool false)], args := [d1, d2, d3] }
  | _ => none }
def CrcLinesWrongFalsely : Prop := crcLinesRow.holds Try.pinned (OpenSpec.ofChange crcLinesWrong)

/- THE SECOND FORM. 'bulk': how many values and letters a reading holds, each counted each time it is reached (what is shared counts as often as it is met; a slice's spare places count too). A statement '..UptoSaid' is the law's where the arguments, and the package variables that the reading takes, are together of bulk at most 1048576: NARROWER than '..Said'. Prove '..Said' where nothing that the law and all that it calls make is longer than what came in: it says more and counts as full. Else prove '..UptoSaid'. A law counts once. -/
mutual
def uptoBulk {H : Type} : DataW H → Nat
  | .lit (.string bytes) => bytes.length + 1
  | .lit _ => 1
  | .nil => 1
  | .ptr d => uptoBulk d + 1
  | .slice elems spare => uptoBulkAll elems + uptoBulkAll spare + 1
  | .agg parts => uptoBulkAll parts + 1
  | .iface _ d => uptoBulk d + 1
  | .map entries => uptoBulkEntries entries + 1
  | .held _ => 1
def uptoBulkAll {H : Type} : List (DataW H) → Nat
  | [] => 0
  | d :: r => uptoBulk d + uptoBulkAll r
def uptoBulkEntries {H : Type} : List (Lit × DataW H) → Nat
  | [] => 0
  | x :: r => uptoBulkEntry x + uptoBulkEntries r
def uptoBulkEntry {H : Type} : Lit × DataW H → Nat
  | (.string bytes, d) => bytes.length + uptoBulk d + 1
  | (_, d) => uptoBulk d + 1
 end
def uptoSmall : (H : Type) → List (DataW H) → Bool := fun _ ds => decide (uptoBulkAll ds ≤ 1048576)
def OpenSpec.upto (s : _root_.Go.ChangeSpec) : _root_.Go.OpenSpec := { _root_.Go.OpenSpec.ofChange s with cond := some uptoSmall }

/-- 'camshaftlaw03.CrcTells', WHERE WHAT IT READS IS OF BULK AT MOST 1048576: true; the input reads as it did. -/
def crcTellsUptoRow : OpenClaim := { program := "ytdmgndiglpcpfaa", sum := "ede9e07a60c5c2a023fbffa4b92201c8cd128b6a518fa233e7cc5e1c0a67ffa5", func := "camshaft/camshaftlaw03.CrcTells", spec := "crcTells", apart := false, narrowed := true }
def CrcTellsUptoSaid : Prop := crcTellsUptoRow.holds Try.pinned (OpenSpec.upto crcTellsSpec)

/-- 'camshaftlaw03.CrcOn', WHERE WHAT IT READS IS OF BULK AT MOST 1048576: true; the input reads as it did. -/
def crcOnUptoRow : OpenClaim := { program := "ytdmgndiglpcpfaa", sum := "ede9e07a60c5c2a023fbffa4b92201c8cd128b6a518fa233e7cc5e1c0a67ffa5", func := "camshaft/camshaftlaw03.CrcOn", spec := "crcOn", apart := false, narrowed := true }
def CrcOnUptoSaid : Prop := crcOnUptoRow.holds Try.pinned (OpenSpec.upto crcOnSpec)

/-- 'camshaftlaw03.CrcOpens', WHERE WHAT IT READS IS OF BULK AT MOST 1048576: true; the input reads as it did. -/
def crcOpensUptoRow : OpenClaim := { program := "ytdmgndiglpcpfaa", sum := "ede9e07a60c5c2a023fbffa4b92201c8cd128b6a518fa233e7cc5e1c0a67ffa5", func := "camshaft/camshaftlaw03.CrcOpens", spec := "crcOpens", apart := false, narrowed := true }
def CrcOpensUptoSaid : Prop := crcOpensUptoRow.holds Try.pinned (OpenSpec.upto crcOpensSpec)

/-- 'camshaftlaw03.CrcShifts', WHERE WHAT IT READS IS OF BULK AT MOST 1048576: true; the input reads as it did. -/
def crcShiftsUptoRow : OpenClaim := { program := "ytdmgndiglpcpfaa", sum := "ede9e07a60c5c2a023fbffa4b92201c8cd128b6a518fa233e7cc5e1c0a67ffa5", func := "camshaft/camshaftlaw03.CrcShifts", spec := "crcShifts", apart := false, narrowed := true }
def CrcShiftsUptoSaid : Prop := crcShiftsUptoRow.holds Try.pinned (OpenSpec.upto crcShiftsSpec)

/-- 'camshaftlaw03.CrcParts', WHERE WHAT IT READS IS OF BULK AT MOST 1048576: true; the input reads as it did. -/
def crcPartsUptoRow : OpenClaim := { program := "ytdmgndiglpcpfaa", sum := "ede9e07a60c5c2a023fbffa4b92201c8cd128b6a518fa233e7cc5e1c0a67ffa5", func := "camshaft/camshaftlaw03.CrcParts", spec := "crcParts", apart := false, narrowed := true }
def CrcPartsUptoSaid : Prop := crcPartsUptoRow.holds Try.pinned (OpenSpec.upto crcPartsSpec)

/-- 'camshaftlaw03.CrcSwaps', WHERE WHAT IT READS IS OF BULK AT MOST 1048576: true; the input reads as it did. -/
def crcSwapsUptoRow : OpenClaim := { program := "ytdmgndiglpcpfaa", sum := "ede9e07a60c5c2a023fbffa4b92201c8cd128b6a518fa233e7cc5e1c0a67ffa5", func := "camshaft/camshaftlaw03.CrcSwaps", spec := "crcSwaps", apart := false, narrowed := true }
def CrcSwapsUptoSaid : Prop := crcSwapsUptoRow.holds Try.pinned (OpenSpec.upto crcSwapsSpec)

/-- 'camshaftlaw03.CrcLines', WHERE WHAT IT READS IS OF BULK AT MOST 1048576: true; the input reads as it did. -/
def crcLinesUptoRow : OpenClaim := { program := "ytdmgndiglpcpfaa", sum := "ede9e07a60c5c2a023fbffa4b92201c8cd128b6a518fa233e7cc5e1c0a67ffa5", func := "camshaft/camshaftlaw03.CrcLines", spec := "crcLines", apart := false, narrowed := true }
def CrcLinesUptoSaid : Prop := crcLinesUptoRow.holds Try.pinned (OpenSpec.upto crcLinesSpec)

end Rows
end Go.Proofs.Ytdmgndiglpcpfaa
