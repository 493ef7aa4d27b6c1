/-
  No cell of these rows narrows 'for every input' (looked for: loops, veiled, ifaces, maps, wideKeys, modest, calm, conditions, laid).
  DERIVED. THE GIVEN ROWS OF THIS SEAT. 7 by the template 'for every input the law returns true; each argument reads behind the call as it read before'; 0 by the template 'total and deterministic' (their statements: YtojdbpeaclnmkaaTotals.lean).
  GIVEN WITH THE SEED: the statements are not yours to turn. If you find one false, say at which input.
  Laid BY PROGRAM, IN A SANDBOX (cutbox-rows.mjs): the forced cells as the released guide's own fill.sh prints them over the translation abf98eccf745abad… (all of the seat's roots in one cut). By AI agents, Wed Nov 11 2026. No macro, syntax, notation, axiom, sorry.
-/
import Derived.Test.YtojdbpeaclnmkaaChecked
import GoSem.Claim
import GoSem.ClaimJoined
import GoSem.ClaimMapViews
import Derived.JoinedTies
import Derived.KernelRfl
namespace Go.Proofs.Ytojdbpeaclnmkaa
/- THE CELL 'sum', in the pinned program and in every row, IS THE sha256 OF THE DUMP (.gsa) THAT YtojdbpeaclnmkaaProg.lean LOADS. Nothing in Lean hashes anything: it is a label: what it is worth is what the hold of that sum in a sandbox is worth. -/
noncomputable def Try.pinned : Pinned := { name := "ytojdbpeaclnmkaa", sum := "abf98eccf745abadb18159c48ad627e9400c8f7fb3d79eeb31ee01c5c00db587", checked := Try.checked }
namespace Rows
def none {H : Type} : Left H := { results := [], args := [] }

/-- 'camshaftlaw17.ReadyPlays': WHATEVER THE INPUT: true; the input reads as it did. -/
def readyPlaysSpec : ChangeSpec := { name := "readyPlays", fn := fun _ => fun
  | [d] => { results := [.lit (.bool true)], args := [d] }
  | _ => none }
def readyPlaysRow : OpenClaim := { program := "ytojdbpeaclnmkaa", sum := "abf98eccf745abadb18159c48ad627e9400c8f7fb3d79eeb31ee01c5c00db587", func := "camshaft/camshaftlaw17.ReadyPlays", spec := "readyPlays", apart := false }
def ReadyPlaysSaid : Prop := readyPlaysRow.holds Try.pinned (OpenSpec.ofChange readyPlaysSpec)

/-- ITS FALSE NEIGHBOUR: 'it returns false'. Refute it at one input. -/
def readyPlaysWrong : ChangeSpec := { name := "readyPlays", fn := fun _ => fun
  | [d] => { results := [.lit (.bool false)], args := [d] }
  | _ => none }
def ReadyPlaysWrongFalsely : Prop := readyPlaysRow.holds Try.pinned (OpenSpec.ofChange readyPlaysWrong)

/-- 'camshaftlaw17.ReadyOrders': WHATEVER THE INPUT: true; the input reads as it did. -/
def readyOrdersSpec : ChangeSpec := { name := "readyOrders", fn := fun _ => fun
  | [d1, d2] => { results := [.lit (.bool true)], args := [d1, d2] }
  | _ => none }
def readyOrdersRow : OpenClaim := { program := "ytojdbpeaclnmkaa", sum := "abf98eccf745abadb18159c48ad627e9400c8f7fb3d79eeb31ee01c5c00db587", func := "camshaft/camshaftlaw17.ReadyOrders", spec := "readyOrders", apart := false }
def ReadyOrdersSaid : Prop := readyOrdersRow.holds Try.pinned (OpenSpec.ofChange readyOrdersSpec)

/-- ITS FALSE NEIGHBOUR: 'it returns false'. Refute it at one input. -/
def readyOrdersWrong : ChangeSpec := { name := "readyOrders", fn := fun _ => fun
  | [d1, d2] => { results := [.lit (.bool false)], args := [d1, d2] }
  | _ => none }
def ReadyOrdersWrongFalsely : Prop := readyOrdersRow.holds Try.pinned (OpenSpec.ofChange readyOrdersWrong)

/-- 'camshaftlaw17.ReadyAbove': WHATEVER THE INPUT: true; the input reads as it did. -/
def readyAboveSpec : ChangeSpec := { name := "readyAbove", fn := fun _ => fun
  | [d1, d2, d3] => { results := [.lit (.bool true)], args := [d1, d2, d3] }
  | _ => none }
def readyAboveRow : OpenClaim := { program := "ytojdbpeaclnmkaa", sum := "abf98eccf745abadb18159c48ad627e9400c8f7fb3d79eeb31ee01c5c00db587", func := "camshaft/camshaftlaw17.ReadyAbove", spec := "readyAbove", apart := false }
def ReadyAboveSaid : Prop := readyAboveRow.holds Try.pinned (OpenSpec.ofChange readyAboveSpec)

/-- ITS FALSE NEIGHBOUR: 'it returns false'. Refute it at one input. -/
def readyAboveWrong : ChangeSpec := { name := "readyAbove", fn := fun _ => fun
  | [d1, d2, d3] => { results := [.lit (.bool false)], args := [d1, d2, d3] }
  | _ => none }
def ReadyAboveWrongFalsely : Prop := readyAboveRow.holds Try.pinned (OpenSpec.ofChange readyAboveWrong)

/-- 'camshaftlaw17.ReadyNil': WHATEVER THE INPUT: true; the input reads as it did. -/
def readyNilSpec : ChangeSpec := { name := "readyNil", fn := fun _ => fun
  | [d] => { results := [.lit (.bool true)], args := [d] }
  | _ => none }
def readyNilRow : OpenClaim := { program := "ytojdbpeaclnmkaa", sum := "abf98eccf745abadb18159c48ad627e9400c8f7fb3d79eeb31ee01c5c00db587", func := "camshaft/camshaftlaw17.ReadyNil", spec := "readyNil", apart := false }
def ReadyNilSaid : Prop := readyNilRow.holds Try.pinned (OpenSpec.ofChange readyNilSpec)

/-- ITS FALSE NEIGHBOUR: 'it returns false'. Refute it at one input. -/
def readyNilWrong : ChangeSpec := { name := "readyNil", fn := fun _ => fun
  | [d] => { results := [.lit (.bool false)], args := [d] }
  | _ => none }
def ReadyNilWrongFalsely : Prop := readyNilRow.holds Try.pinned (OpenSpec.ofChange readyNilWrong)

/-- 'camshaftlaw17.ReadyPicks': WHATEVER THE INPUT: true; the input reads as it did. -/
def readyPicksSpec : ChangeSpec := { name := "readyPicks", fn := fun _ => fun
  | [d1, d2] => { results := [.lit (.bool true)], args := [d1, d2] }
  | _ => none }
def readyPicksRow : OpenClaim := { program := "ytojdbpeaclnmkaa", sum := "abf98eccf745abadb18159c48ad627e9400c8f7fb3d79eeb31ee01c5c00db587", func := "camshaft/camshaftlaw17.ReadyPicks", spec := "readyPicks", apart := false }
def ReadyPicksSaid : Prop := readyPicksRow.holds Try.pinned (OpenSpec.ofChange readyPicksSpec)

/-- ITS FALSE NEIGHBOUR: 'it returns false'. Refute it at one input. -/
def readyPicksWrong : ChangeSpec := { name := "readyPicks", fn := fun _ => fun
  | [d1, d2] => { results := [.lit (.bool false)], args := [d1, d2] }
  | _ => none }
def ReadyPicksWrongFalsely : Prop := readyPicksRow.holds Try.pinned (OpenSpec.ofChange readyPicksWrong)

/-- 'camshaftlaw17.ReadyBest': WHATEVER THE INPUT: true; the input reads as it did. -/
def readyBestSpec : ChangeSpec := { name := "readyBest", fn := fun _ => fun
  | [d] => { results := [.lit (.bool true)], args := [d] }
  | _ => none }
def readyBestRow : OpenClaim := { program := "ytojdbpeaclnmkaa", sum := "abf98eccf745abadb18159c48ad627e9400c8f7fb3d79eeb31ee01c5c00db587", func := "camshaft/camshaftlaw17.ReadyBest", spec := "readyBest", apart := false }
def ReadyBestSaid : Prop := readyBestRow.holds Try.pinned (OpenSpec.ofChange readyBestSpec)

/-- ITS FALSE NEIGHBOUR: 'it returns false'. Refute it at one input. -/
def readyBestWrong : ChangeSpec := { name := "readyBest", fn := fun _ => fun
  | [d] => { results := [.lit (.bool false)], args := [d] }
  | _ => none }
def ReadyBestWrongFalsely : Prop := readyBestRow.holds Try.pinned (OpenSpec.ofChange readyBestWrong)

/-- 'camshaftlaw17.ReadyParts': WHATEVER THE INPUT: true; the input reads as it did. -/
def readyPartsSpec : ChangeSpec := { name := "readyParts", fn := fun _ => fun
  | [d1, d2] => { results := [.lit (.bool true)], args := [d1, d2] }
  | _ => none }
def readyPartsRow : OpenClaim := { program := "ytojdbpeaclnmkaa", sum := "abf98eccf745abadb18159c48ad627e9400c8f7fb3d79eeb31ee01c5c00db587", func := "camshaft/camshaftlaw17.ReadyParts", spec := "readyParts", apart := false }
def ReadyPartsSaid : Prop := readyPartsRow.holds Try.pinned (OpenSpec.ofChange readyPartsSpec)

/-- ITS FALSE NEIGHBOUR: 'it returns false'. Refute it at one input. -/
def readyPartsWrong : ChangeSpec := { name := "readyParts", fn := fun _ => fun
  | [d1, d2] => { results := [.lit (.bool false)], args := [d1, d2] }
  | _ => none }
def ReadyPartsWrongFalsely : Prop := readyPartsRow.holds Try.pinned (OpenSpec.ofChange readyPartsWrong)

/- THE SECOND FORM. 'bulk': how many values and letters a reading holds, each counted each time it is reached (what is shared counts as often as it is met; a slice's spare places count too). A statement '..UptoSaid' is the law's where the arguments, and the package variables that the reading takes, are together of bulk at most 1048576: NARROWER than '..Said'. Prove '..Said' where nothing that the law and all that it calls make is longer than what came in: it says more and counts as full. Else prove '..UptoSaid'. A law counts once. -/
mutual
def uptoBulk {H : Type} : DataW H → Nat
  | .lit (.string bytes) => bytes.length + 1
  | .lit _ => 1
  | .nil => 1
  | .ptr d => uptoBulk d + 1
  | .slice elems spare => uptoBulkAll elems + uptoBulkAll spare + 1
  | .agg parts => uptoBulkAll parts + 1
  | .iface _ d => uptoBulk d + 1
  | .map entries => uptoBulkEntries entries + 1
  | .held _ => 1
def uptoBulkAll {H : Type} : List (DataW H) → Nat
  | [] => 0
  | d :: r => uptoBulk d + uptoBulkAll r
def uptoBulkEntries {H : Type} : List (Lit × DataW H) → Nat
  | [] => 0
  | x :: r => uptoBulkEntry x + uptoBulkEntries r
def uptoBulkEntry {H : Type} : Lit × DataW H → Nat
  | (.string bytes, d) => bytes.length + uptoBulk d + 1
  | (_, d) => uptoBulk d + 1
 end
def uptoSmall : (H : Type) → List (DataW H) → Bool := fun _ ds => decide (uptoBulkAll ds ≤ 1048576)
def OpenSpec.upto (s : _root_.Go.ChangeSpec) : _root_.Go.OpenSpec := { _root_.Go.OpenSpec.ofChange s with cond := some uptoSmall }

/-- 'camshaftlaw17.ReadyPlays', WHERE WHAT IT READS IS OF BULK AT MOST 1048576: true; the input reads as it did. -/
def readyPlaysUptoRow : OpenClaim := { program := "ytojdbpeaclnmkaa", sum := "abf98eccf745abadb18159c48ad627e9400c8f7fb3d79eeb31ee01c5c00db587", func := "camshaft/camshaftlaw17.ReadyPlays", spec := "readyPlays", apart := false, narrowed := true }
def ReadyPlaysUptoSaid : Prop := readyPlaysUptoRow.holds Try.pinned (OpenSpec.upto readyPlaysSpec)

/-- 'camshaftlaw17.ReadyOrders', WHERE WHAT IT READS IS OF BULK AT MOST 1048576: true; the input reads as it did. -/
def readyOrdersUptoRow : OpenClaim := { program := "ytojdbpeaclnmkaa", sum := "abf98eccf745abadb18159c48ad627e9400c8f7fb3d79eeb31ee01c5c00db587", func := "camshaft/camshaftlaw17.ReadyOrders", spec := "readyOrders", apart := false, narrowed := true }
def ReadyOrdersUptoSaid : Prop := readyOrdersUptoRow.holds Try.pinned (OpenSpec.upto readyOrdersSpec)

/-- 'camshaftlaw17.ReadyAbove', WHERE WHAT IT READS IS OF BULK AT MOST 1048576: true; the input reads as it did. -/
def readyAboveUptoRow : OpenClaim := { program := "ytojdbpeaclnmkaa", sum := "abf98eccf745abadb18159c48ad627e9400c8f7fb3d79eeb31ee01c5c00db587", func := "camshaft/camshaftlaw17.ReadyAbove", spec := "readyAbove", apart := false, narrowed := true }
def ReadyAboveUptoSaid : Prop := readyAboveUptoRow.holds Try.pinned (OpenSpec.upto readyAboveSpec)

/-- 'camshaftlaw17.ReadyNil', WHERE WHAT IT READS IS OF BULK AT MOST 1048576: true; the input reads as it did. -/
def readyNilUptoRow : OpenClaim := { program := "ytojdbpeaclnmkaa", sum := "abf98eccf745abadb18159c48ad627e9400c8f7fb3d79eeb31ee01c5c00db587", func := "camshaft/camshaftlaw17.ReadyNil", spec := "readyNil", apart := false, narrowed := true }
def ReadyNilUptoSaid : Prop := readyNilUptoRow.holds Try.pinned (OpenSpec.upto readyNilSpec)

/-- 'camshaftlaw17.ReadyPicks', WHERE WHAT IT READS IS OF BULK AT MOST 1048576: true; the input reads as it did. -/
def readyPicksUptoRow : OpenClaim := { program := "ytojdbpeaclnmkaa", sum := "abf98eccf745abadb18159c48ad627e9400c8f7fb3d79eeb31ee01c5c00db587", func := "camshaft/camshaftlaw17.ReadyPicks", spec := "readyPicks", apart := false, narrowed := true }
def ReadyPicksUptoSaid : Prop := readyPicksUptoRow.holds Try.pinned (OpenSpec.upto readyPicksSpec)

/-- 'camshaftlaw17.ReadyBest', WHERE WHAT IT READS IS OF BULK AT MOST 1048576: true; the input reads as it did. -/
def readyBestUptoRow : OpenClaim := { program := "ytojdbpeaclnmkaa", sum := "abf98eccf745abadb18159c48ad627e9400c8f7fb3d79eeb31ee01c5c00db587", func := "camshaft/camshaftlaw17.ReadyBest", spec := "readyBest", apart := false, narrowed := true }
def ReadyBestUptoSaid : Prop := readyBestUptoRow.holds Try.pinned (OpenSpec.upto readyBestSpec)

/-- 'camshaftlaw17.ReadyParts', WHERE WHAT IT READS IS OF BULK AT MOST 1048576: true; the input reads as it did. -/
def readyPartsUptoRow : OpenClaim := { program := "ytojdbpeaclnmkaa", sum := "abf98eccf745abadb18159c48ad627e9400c8f7fb3d79eeb31ee01c5c00db587", func := "camshaft/camshaftlaw17.ReadyParts", spec := "readyParts", apart := false, narrowed := true }
def ReadyPartsUptoSaid : Prop := readyPartsUptoRow.holds Try.pinned (OpenSpec.upto readyPartsSpec)

end Rows
end Go.Proofs.Ytojdbpeaclnmkaa
