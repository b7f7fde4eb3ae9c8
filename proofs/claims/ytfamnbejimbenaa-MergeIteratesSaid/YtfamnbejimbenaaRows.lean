/-
  No cell of these rows narrows 'for every input' (looked for: loops, veiled, ifaces, maps, wideKeys, modest, calm, conditions, laid).
  DERIVED. THE GIVEN ROWS OF THIS SEAT. 7 by the template 'for every input the law returns true; each argument reads behind the call as it read before'; 0 by the template 'total and deterministic' (their statements: YtfamnbejimbenaaTotals.lean).
  GIVEN WITH THE SEED: the statements are not yours to turn. If you find one false, say at which input.
  Laid BY PROGRAM, IN A SANDBOX (cutbox-rows.mjs): the forced cells as the released guide's own fill.sh prints them over the translation 9c3e73bf7fa82190… (all of the seat's roots in one cut). By AI agents, Wed Nov 11 2026. No macro, syntax, notation, axiom, sorry.
-/
import Derived.Test.YtfamnbejimbenaaChecked
import GoSem.Claim
import GoSem.ClaimJoined
import GoSem.ClaimMapViews
import Derived.JoinedTies
import Derived.KernelRfl
namespace Go.Proofs.Ytfamnbejimbenaa
/- THE CELL 'sum', in the pinned program and in every row, IS THE sha256 OF THE DUMP (.gsa) THAT YtfamnbejimbenaaProg.lean LOADS. Nothing in Lean hashes anything: it is a label: what it is worth is what the hold of that sum in a sandbox is worth. -/
noncomputable def Try.pinned : Pinned := { name := "ytfamnbejimbenaa", sum := "9c3e73bf7fa821900862f40c9afebbec013ccfc08dfc7423d80cacd9d7944e9f", checked := Try.checked }
namespace Rows
def none {H : Type} : Left H := { results := [], args := [] }

/-- 'thermographlaw06.MergeOrder': WHATEVER THE INPUT: true; the input reads as it did. -/
def mergeOrderSpec : ChangeSpec := { name := "mergeOrder", fn := fun _ => fun
  | [d1, d2, d3] => { results := [.lit (.bool true)], args := [d1, d2, d3] }
  | _ => none }
def mergeOrderRow : OpenClaim := { program := "ytfamnbejimbenaa", sum := "9c3e73bf7fa821900862f40c9afebbec013ccfc08dfc7423d80cacd9d7944e9f", func := "thermograph/thermographlaw06.MergeOrder", spec := "mergeOrder", apart := false }
def MergeOrderSaid : Prop := mergeOrderRow.holds Try.pinned (OpenSpec.ofChange mergeOrderSpec)

/-- ITS FALSE NEIGHBOUR: 'it returns false'. Refute it at one input. -/
def mergeOrderWrong : ChangeSpec := { name := "mergeOrder", fn := fun _ => fun
  | [d1, d2, d3] => { results := [.lit (.bool false)], args := [d1, d2, d3] }
  | _ => none }
def MergeOrderWrongFalsely : Prop := mergeOrderRow.holds Try.pinned (OpenSpec.ofChange mergeOrderWrong)

/-- 'thermographlaw06.MergeIterates': WHATEVER THE INPUT: true; the input reads as it did. -/
def mergeIteratesSpec : ChangeSpec := { name := "mergeIterates", fn := fun _ => fun
  | [d] => { results := [.lit (.bool true)], args := [d] }
  | _ => none }
def mergeIteratesRow : OpenClaim := { program := "ytfamnbejimbenaa", sum := "9c3e73bf7fa821900862f40c9afebbec013ccfc08dfc7423d80cacd9d7944e9f", func := "thermograph/thermographlaw06.MergeIterates", spec := "mergeIterates", unfollowed := true, recurses := true, apart := false }
def MergeIteratesSaid : Prop := mergeIteratesRow.holds Try.pinned (OpenSpec.ofChange mergeIteratesSpec)

/-- ITS FALSE NEIGHBOUR: 'it returns false'. Refute it at one input. -/
def mergeIteratesWrong : ChangeSpec := { name := "mergeIterates", fn := fun _ => fun
  | [d] => { results := [.lit (.bool false)], args := [d] }
  | _ => none }
def MergeIteratesWrongFalsely : Prop := mergeIteratesRow.holds Try.pinned (OpenSpec.ofChange mergeIteratesWrong)

/-- 'thermographlaw06.MergeAgain': WHATEVER THE INPUT: true; the input reads as it did. -/
def mergeAgainSpec : ChangeSpec := { name := "mergeAgain", fn := fun _ => fun
  | [d1, d2] => { results := [.lit (.bool true)], args := [d1, d2] }
  | _ => none }
def mergeAgainRow : OpenClaim := { program := "ytfamnbejimbenaa", sum := "9c3e73bf7fa821900862f40c9afebbec013ccfc08dfc7423d80cacd9d7944e9f", func := "thermograph/thermographlaw06.MergeAgain", spec := "mergeAgain", unfollowed := true, recurses := true, apart := false }
def MergeAgainSaid : Prop := mergeAgainRow.holds Try.pinned (OpenSpec.ofChange mergeAgainSpec)

/-- ITS FALSE NEIGHBOUR: 'it returns false'. Refute it at one input. -/
def mergeAgainWrong : ChangeSpec := { name := "mergeAgain", fn := fun _ => fun
  | [d1, d2] => { results := [.lit (.bool false)], args := [d1, d2] }
  | _ => none }
def MergeAgainWrongFalsely : Prop := mergeAgainRow.holds Try.pinned (OpenSpec.ofChange mergeAgainWrong)

/-- 'thermographlaw06.MergeParts': WHATEVER THE INPUT: true; the input reads as it did. -/
def mergePartsSpec : ChangeSpec := { name := "mergeParts", fn := fun _ => fun
  | [d1, d2] => { results := [.lit (.bool true)], args := [d1, d2] }
  | _ => none }
def mergePartsRow : OpenClaim := { program := "ytfamnbejimbenaa", sum := "9c3e73bf7fa821900862f40c9afebbec013ccfc08dfc7423d80cacd9d7944e9f", func := "thermograph/thermographlaw06.MergeParts", spec := "mergeParts", unfollowed := true, recurses := true, apart := false }
def MergePartsSaid : Prop := mergePartsRow.holds Try.pinned (OpenSpec.ofChange mergePartsSpec)

/-- ITS FALSE NEIGHBOUR: 'it returns false'. Refute it at one input. -/
def mergePartsWrong : ChangeSpec := { name := "mergeParts", fn := fun _ => fun
  | [d1, d2] => { results := [.lit (.bool false)], args := [d1, d2] }
  | _ => none }
def MergePartsWrongFalsely : Prop := mergePartsRow.holds Try.pinned (OpenSpec.ofChange mergePartsWrong)

/-- 'thermographlaw06.MergeBest': WHATEVER THE INPUT: true; the input reads as it did. -/
def mergeBestSpec : ChangeSpec := { name := "mergeBest", fn := fun _ => fun
  | [d] => { results := [.lit (.bool true)], args := [d] }
  | _ => none }
def mergeBestRow : OpenClaim := { program := "ytfamnbejimbenaa", sum := "9c3e73bf7fa821900862f40c9afebbec013ccfc08dfc7423d80cacd9d7944e9f", func := "thermograph/thermographlaw06.MergeBest", spec := "mergeBest", unfollowed := true, recurses := true, apart := false }
def MergeBestSaid : Prop := mergeBestRow.holds Try.pinned (OpenSpec.ofChange mergeBestSpec)

/-- ITS FALSE NEIGHBOUR: 'it returns false'. Refute it at one input. -/
def mergeBestWrong : ChangeSpec := { name := "mergeBest", fn := fun _ => fun
  | [d] => { results := [.lit (.bool false)], args := [d] }
  | _ => none }
def MergeBestWrongFalsely : Prop := mergeBestRow.holds Try.pinned (OpenSpec.ofChange mergeBestWrong)

/-- 'thermographlaw06.MergeViews': WHATEVER THE INPUT: true; the input reads as it did. -/
def mergeViewsSpec : ChangeSpec := { name := "mergeViews", fn := fun _ => fun
  | [d1, d2] => { results := [.lit (.bool true)], args := [d1, d2] }
  | _ => none }
def mergeViewsRow : OpenClaim := { program := "ytfamnbejimbenaa", sum := "9c3e73bf7fa821900862f40c9afebbec013ccfc08dfc7423d80cacd9d7944e9f", func := "thermograph/thermographlaw06.MergeViews", spec := "mergeViews", unfollowed := true, recurses := true, apart := false }
def MergeViewsSaid : Prop := mergeViewsRow.holds Try.pinned (OpenSpec.ofChange mergeViewsSpec)

/-- ITS FALSE NEIGHBOUR: 'it returns false'. Refute it at one input. -/
def mergeViewsWrong : ChangeSpec := { name := "mergeViews", fn := fun _ => fun
  | [d1, d2] => { results := [.lit (.bool false)], args := [d1, d2] }
  | _ => none }
def MergeViewsWrongFalsely : Prop := mergeViewsRow.holds Try.pinned (OpenSpec.ofChange mergeViewsWrong)

/-- 'thermographlaw06.MergeCuts': WHATEVER THE INPUT: true; the input reads as it did. -/
def mergeCutsSpec : ChangeSpec := { name := "mergeCuts", fn := fun _ => fun
  | [d1, d2] => { results := [.lit (.bool true)], args := [d1, d2] }
  | _ => none }
def mergeCutsRow : OpenClaim := { program := "ytfamnbejimbenaa", sum := "9c3e73bf7fa821900862f40c9afebbec013ccfc08dfc7423d80cacd9d7944e9f", func := "thermograph/thermographlaw06.MergeCuts", spec := "mergeCuts", unfollowed := true, recurses := true, apart := false }
def MergeCutsSaid : Prop := mergeCutsRow.holds Try.pinned (OpenSpec.ofChange mergeCutsSpec)

/-- ITS FALSE NEIGHBOUR: 'it returns false'. Refute it at one input. -/
def mergeCutsWrong : ChangeSpec := { name := "mergeCuts", fn := fun _ => fun
  | [d1, d2] => { results := [.lit (.bool false)], args := [d1, d2] }
  | _ => none }
def MergeCutsWrongFalsely : Prop := mergeCutsRow.holds Try.pinned (OpenSpec.ofChange mergeCutsWrong)

/- THE SECOND FORM. 'bulk': how many values and letters a reading holds, each counted each time it is reached (what is shared counts as often as it is met; a slice's spare places count too). A statement '..UptoSaid' is the law's where the arguments, and the package variables that the reading takes, are together of bulk at most 1048576: NARROWER than '..Said'. Prove '..Said' where nothing that the law and all that it calls make is longer than what came in: it says more and counts as full. Else prove '..UptoSaid'. A law counts once. -/
mutual
def uptoBulk {H : Type} : DataW H → Nat
  | .lit (.string bytes) => bytes.length + 1
  | .lit _ => 1
  | .nil => 1
  | .ptr d => uptoBulk d + 1
  | .slice elems spare => uptoBulkAll elems + uptoBulkAll spare + 1
  | .agg parts => uptoBulkAll parts + 1
  | .iface _ d => uptoBulk d + 1
  | .map entries => uptoBulkEntries entries + 1
  | .held _ => 1
def uptoBulkAll {H : Type} : List (DataW H) → Nat
  | [] => 0
  | d :: r => uptoBulk d + uptoBulkAll r
def uptoBulkEntries {H : Type} : List (Lit × DataW H) → Nat
  | [] => 0
  | x :: r => uptoBulkEntry x + uptoBulkEntries r
def uptoBulkEntry {H : Type} : Lit × DataW H → Nat
  | (.string bytes, d) => bytes.length + uptoBulk d + 1
  | (_, d) => uptoBulk d + 1
 end
def uptoSmall : (H : Type) → List (DataW H) → Bool := fun _ ds => decide (uptoBulkAll ds ≤ 1048576)
def OpenSpec.upto (s : _root_.Go.ChangeSpec) : _root_.Go.OpenSpec := { _root_.Go.OpenSpec.ofChange s with cond := some uptoSmall }

/-- 'thermographlaw06.MergeOrder', WHERE WHAT IT READS IS OF BULK AT MOST 1048576: true; the input reads as it did. -/
def mergeOrderUptoRow : OpenClaim := { program := "ytfamnbejimbenaa", sum := "9c3e73bf7fa821900862f40c9afebbec013ccfc08dfc7423d80cacd9d7944e9f", func := "thermograph/thermographlaw06.MergeOrder", spec := "mergeOrder", apart := false, narrowed := true }
def MergeOrderUptoSaid : Prop := mergeOrderUptoRow.holds Try.pinned (OpenSpec.upto mergeOrderSpec)

/-- 'thermographlaw06.MergeIterates', WHERE WHAT IT READS IS OF BULK AT MOST 1048576: true; the input reads as it did. -/
def mergeIteratesUptoRow : OpenClaim := { program := "ytfamnbejimbenaa", sum := "9c3e73bf7fa821900862f40c9afebbec013ccfc08dfc7423d80cacd9d7944e9f", func := "thermograph/thermographlaw06.MergeIterates", spec := "mergeIterates", unfollowed := true, recurses := true, apart := false, narrowed := true }
def MergeIteratesUptoSaid : Prop := mergeIteratesUptoRow.holds Try.pinned (OpenSpec.upto mergeIteratesSpec)

/-- 'thermographlaw06.MergeAgain', WHERE WHAT IT READS IS OF BULK AT MOST 1048576: true; the input reads as it did. -/
def mergeAgainUptoRow : OpenClaim := { program := "ytfamnbejimbenaa", sum := "9c3e73bf7fa821900862f40c9afebbec013ccfc08dfc7423d80cacd9d7944e9f", func := "thermograph/thermographlaw06.MergeAgain", spec := "mergeAgain", unfollowed := true, recurses := true, apart := false, narrowed := true }
def MergeAgainUptoSaid : Prop := mergeAgainUptoRow.holds Try.pinned (OpenSpec.upto mergeAgainSpec)

/-- 'thermographlaw06.MergeParts', WHERE WHAT IT READS IS OF BULK AT MOST 1048576: true; the input reads as it did. -/
def mergePartsUptoRow : OpenClaim := { program := "ytfamnbejimbenaa", sum := "9c3e73bf7fa821900862f40c9afebbec013ccfc08dfc7423d80cacd9d7944e9f", func := "thermograph/thermographlaw06.MergeParts", spec := "mergeParts", unfollowed := true, recurses := true, apart := false, narrowed := true }
def MergePartsUptoSaid : Prop := mergePartsUptoRow.holds Try.pinned (OpenSpec.upto mergePartsSpec)

/-- 'thermographlaw06.MergeBest', WHERE WHAT IT READS IS OF BULK AT MOST 1048576: true; the input reads as it did. -/
def mergeBestUptoRow : OpenClaim := { program := "ytfamnbejimbenaa", sum := "9c3e73bf7fa821900862f40c9afebbec013ccfc08dfc7423d80cacd9d7944e9f", func := "thermograph/thermographlaw06.MergeBest", spec := "mergeBest", unfollowed := true, recurses := true, apart := false, narrowed := true }
def MergeBestUptoSaid : Prop := mergeBestUptoRow.holds Try.pinned (OpenSpec.upto mergeBestSpec)

/-- 'thermographlaw06.MergeViews', WHERE WHAT IT READS IS OF BULK AT MOST 1048576: true; the input reads as it did. -/
def mergeViewsUptoRow : OpenClaim := { program := "ytfamnbejimbenaa", sum := "9c3e73bf7fa821900862f40c9afebbec013ccfc08dfc7423d80cacd9d7944e9f", func := "thermograph/thermographlaw06.MergeViews", spec := "mergeViews", unfollowed := true, recurses := true, apart := false, narrowed := true }
def MergeViewsUptoSaid : Prop := mergeViewsUptoRow.holds Try.pinned (OpenSpec.upto mergeViewsSpec)

/-- 'thermographlaw06.MergeCuts', WHERE WHAT IT READS IS OF BULK AT MOST 1048576: true; the input reads as it did. -/
def mergeCutsUptoRow : OpenClaim := { program := "ytfamnbejimbenaa", sum := "9c3e73bf7fa821900862f40c9afebbec013ccfc08dfc7423d80cacd9d7944e9f", func := "thermograph/thermographlaw06.MergeCuts", spec := "mergeCuts", unfollowed := true, recurses := true, apart := false, narrowed := true }
def MergeCutsUptoSaid : Prop := mergeCutsUptoRow.holds Try.pinned (OpenSpec.upto mergeCutsSpec)

end Rows
end Go.Proofs.Ytfamnbejimbenaa
