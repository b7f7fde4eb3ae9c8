/-
  No cell of these rows narrows 'for every input' (looked for: loops, veiled, ifaces, maps, wideKeys, modest, calm, conditions, laid).
  DERIVED. THE GIVEN ROWS OF THIS SEAT. 5 by the template 'for every input the law returns true; each argument reads behind the call as it read before'; 0 by the template 'total and deterministic' (their statements: YthdieelceafidaaTotals.lean).
  GIVEN WITH THE SEED: the statements are not yours to turn. If you find one false, say at which input.
  Laid BY PROGRAM, IN A SANDBOX (cutbox-rows.mjs): the forced cells as the released guide's own fill.sh prints them over the translation c3e1dc0694b7defb… (all of the seat's roots in one cut). By AI agents, Wed Nov 11 2026. No macro, syntax, notation, axiom, sorry.
-/
import Derived.Test.YthdieelceafidaaChecked
import GoSem.Claim
import GoSem.ClaimJoined
import GoSem.ClaimMapViews
import Derived.JoinedTies
import Derived.KernelRfl
namespace Go.Proofs.Ythdieelceafidaa
/- THE CELL 'sum', in the pinned program and in every row, IS THE sha256 OF THE DUMP (.gsa) THAT YthdieelceafidaaProg.lean LOADS. Nothing in Lean hashes anything: it is a label: what it is worth is what the hold of that sum in a sandbox is worth. -/
noncomputable def Try.pinned : Pinned := { name := "ythdieelceafidaa", sum := "c3e1dc0694b7defbc2ac7c2976a193a3803381ed19e8681601c3ec90d8ae3874", checked := Try.checked }
namespace Rows
def none {H : Type} : Left H := { results := [], args := [] }

/-- 'thermographlaw16.RangesOrder': WHATEVER THE INPUT: true; the input reads as it did. -/
def rangesOrderSpec : ChangeSpec := { name := "rangesOrder", fn := fun _ => fun
  | [d1, d2] => { results := [.lit (.bool true)], args := [d1, d2] }
  | _ => none }
def rangesOrderRow : OpenClaim := { program := "ythdieelceafidaa", sum := "c3e1dc0694b7defbc2ac7c2976a193a3803381ed19e8681601c3ec90d8ae3874", func := "thermograph/thermographlaw16.RangesOrder", spec := "rangesOrder", unfollowed := true, recurses := true, apart := false }
def RangesOrderSaid : Prop := rangesOrderRow.holds Try.pinned (OpenSpec.ofChange rangesOrderSpec)

/-- ITS FALSE NEIGHBOUR: 'it returns false'. Refute it at one input. -/
def rangesOrderWrong : ChangeSpec := { name := "rangesOrder", fn := fun _ => fun
  | [d1, d2] => { results := [.lit (.bool false)], args := [d1, d2] }
  | _ => none }
def RangesOrderWrongFalsely : Prop := rangesOrderRow.holds Try.pinned (OpenSpec.ofChange rangesOrderWrong)

/-- 'thermographlaw16.RangesNormal': WHATEVER THE INPUT: true; the input reads as it did. -/
def rangesNormalSpec : ChangeSpec := { name := "rangesNormal", fn := fun _ => fun
  | [d1, d2] => { results := [.lit (.bool true)], args := [d1, d2] }
  | _ => none }
def rangesNormalRow : OpenClaim := { program := "ythdieelceafidaa", sum := "c3e1dc0694b7defbc2ac7c2976a193a3803381ed19e8681601c3ec90d8ae3874", func := "thermograph/thermographlaw16.RangesNormal", spec := "rangesNormal", unfollowed := true, recurses := true, apart := false }
def RangesNormalSaid : Prop := rangesNormalRow.holds Try.pinned (OpenSpec.ofChange rangesNormalSpec)

/-- ITS FALSE NEIGHBOUR: 'it returns false'. Refute it at one input. -/
def rangesNormalWrong : ChangeSpec := { name := "rangesNormal", fn := fun _ => fun
  | [d1, d2] => { results := [.lit (.bool false)], args := [d1, d2] }
  | _ => none }
def RangesNormalWrongFalsely : Prop := rangesNormalRow.holds Try.pinned (OpenSpec.ofChange rangesNormalWrong)

/-- 'thermographlaw16.RangesLen': WHATEVER THE INPUT: true; the input reads as it did. -/
def rangesLenSpec : ChangeSpec := { name := "rangesLen", fn := fun _ => fun
  | [d1, d2] => { results := [.lit (.bool true)], args := [d1, d2] }
  | _ => none }
def rangesLenRow : OpenClaim := { program := "ythdieelceafidaa", sum := "c3e1dc0694b7defbc2ac7c2976a193a3803381ed19e8681601c3ec90d8ae3874", func := "thermograph/thermographlaw16.RangesLen", spec := "rangesLen", unfollowed := true, recurses := true, apart := false }
def RangesLenSaid : Prop := rangesLenRow.holds Try.pinned (OpenSpec.ofChange rangesLenSpec)

/-- ITS FALSE NEIGHBOUR: 'it returns false'. Refute it at one input. -/
def rangesLenWrong : ChangeSpec := { name := "rangesLen", fn := fun _ => fun
  | [d1, d2] => { results := [.lit (.bool false)], args := [d1, d2] }
  | _ => none }
def RangesLenWrongFalsely : Prop := rangesLenRow.holds Try.pinned (OpenSpec.ofChange rangesLenWrong)

/-- 'thermographlaw16.RangesBack': WHATEVER THE INPUT: true; the input reads as it did. -/
def rangesBackSpec : ChangeSpec := { name := "rangesBack", fn := fun _ => fun
  | [d1, d2, d3] => { results := [.lit (.bool true)], args := [d1, d2, d3] }
  | _ => none }
def rangesBackRow : OpenClaim := { program := "ythdieelceafidaa", sum := "c3e1dc0694b7defbc2ac7c2976a193a3803381ed19e8681601c3ec90d8ae3874", func := "thermograph/thermographlaw16.RangesBack", spec := "rangesBack", unfollowed := true, recurses := true, apart := false }
def RangesBackSaid : Prop := rangesBackRow.holds Try.pinned (OpenSpec.ofChange rangesBackSpec)

/-- ITS FALSE NEIGHBOUR: 'it returns false'. Refute it at one input. -/
def rangesBackWrong : ChangeSpec := { name := "rangesBack", fn := fun _ => fun
  | [d1, d2, d3] => { results := [.lit (.bool false)], args := [d1, d2, d3] }
  | _ => none }
def RangesBackWrongFalsely : Prop := rangesBackRow.holds Try.pinned (OpenSpec.ofChange rangesBackWrong)

/-- 'thermographlaw16.RangesSets': WHATEVER THE INPUT: true; the input reads as it did. -/
def rangesSetsSpec : ChangeSpec := { name := "rangesSets", fn := fun _ => fun
  | [d1, d2, d3] => { results := [.lit (.bool true)], args := [d1, d2, d3] }
  | _ => none }
def rangesSetsRow : OpenClaim := { program := "ythdieelceafidaa", sum := "c3e1dc0694b7defbc2ac7c2976a193a3803381ed19e8681601c3ec90d8ae3874", func := "thermograph/thermographlaw16.RangesSets", spec := "rangesSets", unfollowed := true, recurses := true, apart := false }
def RangesSetsSaid : Prop := rangesSetsRow.holds Try.pinned (OpenSpec.ofChange rangesSetsSpec)

/-- ITS FALSE NEIGHBOUR: 'it returns false'. Refute it at one input. -/
def rangesSetsWrong : ChangeSpec := { name := "rangesSets", fn := fun _ => fun
  | [d1, d2, d3] => { results := [.lit (.bool false)], args := [d1, d2, d3] }
  | _ => none }
def RangesSetsWrongFalsely : Prop := rangesSetsRow.holds Try.pinned (OpenSpec.ofChange rangesSetsWrong)

/- THE SECOND FORM. 'bulk': how many values and letters a reading holds, each counted each time it is reached (what is shared counts as often as it is met; a slice's spare places count too). A statement '..UptoSaid' is the law's where the arguments, and the package variables that the reading takes, are together of bulk at most 1048576: NARROWER than '..Said'. Prove '..Said' where nothing that the law and all that it calls make is longer than what came in: it says more and counts as full. Else prove '..UptoSaid'. A law counts once. -/
mutual
def uptoBulk {H : Type} : DataW H → Nat
  | .lit (.string bytes) => bytes.length + 1
  | .lit _ => 1
  | .nil => 1
  | .ptr d => uptoBulk d + 1
  | .slice elems spare => uptoBulkAll elems + uptoBulkAll spare + 1
  | .agg parts => uptoBulkAll parts + 1
  | .iface _ d => uptoBulk d + 1
  | .map entries => uptoBulkEntries entries + 1
  | .held _ => 1
def uptoBulkAll {H : Type} : List (DataW H) → Nat
  | [] => 0
  | d :: r => uptoBulk d + uptoBulkAll r
def uptoBulkEntries {H : Type} : List (Lit × DataW H) → Nat
  | [] => 0
  | x :: r => uptoBulkEntry x + uptoBulkEntries r
def uptoBulkEntry {H : Type} : Lit × DataW H → Nat
  | (.string bytes, d) => bytes.length + uptoBulk d + 1
  | (_, d) => uptoBulk d + 1
 end
def uptoSmall : (H : Type) → List (DataW H) → Bool := fun _ ds => decide (uptoBulkAll ds ≤ 1048576)
def OpenSpec.upto (s : _root_.Go.ChangeSpec) : _root_.Go.OpenSpec := { _root_.Go.OpenSpec.ofChange s with cond := some uptoSmall }

/-- 'thermographlaw16.RangesOrder', WHERE WHAT IT READS IS OF BULK AT MOST 1048576: true; the input reads as it did. -/
def rangesOrderUptoRow : OpenClaim := { program := "ythdieelceafidaa", sum := "c3e1dc0694b7defbc2ac7c2976a193a3803381ed19e8681601c3ec90d8ae3874", func := "thermograph/thermographlaw16.RangesOrder", spec := "rangesOrder", unfollowed := true, recurses := true, apart := false, narrowed := true }
def RangesOrderUptoSaid : Prop := rangesOrderUptoRow.holds Try.pinned (OpenSpec.upto rangesOrderSpec)

/-- 'thermographlaw16.RangesNormal', WHERE WHAT IT READS IS OF BULK AT MOST 1048576: true; the input reads as it did. -/
def rangesNormalUptoRow : OpenClaim := { program := "ythdieelceafidaa", sum := "c3e1dc0694b7defbc2ac7c2976a193a3803381ed19e8681601c3ec90d8ae3874", func := "thermograph/thermographlaw16.RangesNormal", spec := "rangesNormal", unfollowed := true, recurses := true, apart := false, narrowed := true }
def RangesNormalUptoSaid : Prop := rangesNormalUptoRow.holds Try.pinned (OpenSpec.upto rangesNormalSpec)

/-- 'thermographlaw16.RangesLen', WHERE WHAT IT READS IS OF BULK AT MOST 1048576: true; the input reads as it did. -/
def rangesLenUptoRow : OpenClaim := { program := "ythdieelceafidaa", sum := "c3e1dc0694b7defbc2ac7c2976a193a3803381ed19e8681601c3ec90d8ae3874", func := "thermograph/thermographlaw16.RangesLen", spec := "rangesLen", unfollowed := true, recurses := true, apart := false, narrowed := true }
def RangesLenUptoSaid : Prop := rangesLenUptoRow.holds Try.pinned (OpenSpec.upto rangesLenSpec)

/-- 'thermographlaw16.RangesBack', WHERE WHAT IT READS IS OF BULK AT MOST 1048576: true; the input reads as it did. -/
def rangesBackUptoRow : OpenClaim := { program := "ythdieelceafidaa", sum := "c3e1dc0694b7defbc2ac7c2976a193a3803381ed19e8681601c3ec90d8ae3874", func := "thermograph/thermographlaw16.RangesBack", spec := "rangesBack", unfollowed := true, recurses := true, apart := false, narrowed := true }
def RangesBackUptoSaid : Prop := rangesBackUptoRow.holds Try.pinned (OpenSpec.upto rangesBackSpec)

/-- 'thermographlaw16.RangesSets', WHERE WHAT IT READS IS OF BULK AT MOST 1048576: true; the input reads as it did. -/
def rangesSetsUptoRow : OpenClaim := { program := "ythdieelceafidaa", sum := "c3e1dc0694b7defbc2ac7c2976a193a3803381ed19e8681601c3ec90d8ae3874", func := "thermograph/thermographlaw16.RangesSets", spec := "rangesSets", unfollowed := true, recurses := true, apart := false, narrowed := true }
def RangesSetsUptoSaid : Prop := rangesSetsUptoRow.holds Try.pinned (OpenSpec.upto rangesSetsSpec)

end Rows
end Go.Proofs.Ythdieelceafidaa
