/-
  No cell of these rows narrows 'for every input' (looked for: loops, veiled, ifaces, maps, wideKeys, modest, calm, conditions, laid).
  DERIVED. THE GIVEN ROWS OF THIS SEAT. 5 by the template 'for every input the law returns true; each argument reads behind the call as it read before'; 0 by the template 'total and deterministic' (their statements: YteeimkafcadinaaTotals.lean).
  GIVEN WITH THE SEED: the statements are not yours to turn. If you find one false, say at which input.
  Laid BY PROGRAM, IN A SANDBOX (cutbox-rows.mjs): the forced cells as the released guide's own fill.sh prints them over the translation 4631d0f7afa6035f… (all of the seat's roots in one cut). By AI agents, Wed Nov 11 2026. No macro, syntax, notation, axiom, sorry.
-/
import Derived.Test.YteeimkafcadinaaChecked
import GoSem.Claim
import GoSem.ClaimJoined
import GoSem.ClaimMapViews
import Derived.JoinedTies
import Derived.KernelRfl
namespace Go.Proofs.Yteeimkafcadinaa
/- THE CELL 'sum', in the pinned program and in every row, IS THE sha256 OF THE DUMP (.gsa) THAT YteeimkafcadinaaProg.lean LOADS. Nothing in Lean hashes anything: it is a label: what it is worth is what the hold of that sum in a sandbox is worth. -/
noncomputable def Try.pinned : Pinned := { name := "yteeimkafcadinaa", sum := "4631d0f7afa6035f75ef92aec5cfab7df14bc22d56cc34437ea64c59df8af404", checked := Try.checked }
namespace Rows
def none {H : Type} : Left H := { results := [], args := [] }

/-- 'thermographlaw07.BloomMore': WHATEVER THE INPUT: true; the input reads as it did. -/
def bloomMoreSpec : ChangeSpec := { name := "bloomMore", fn := fun _ => fun
  | [d1, d2] => { results := [.lit (.bool true)], args := [d1, d2] }
  | _ => none }
def bloomMoreRow : OpenClaim := { program := "yteeimkafcadinaa", sum := "4631d0f7afa6035f75ef92aec5cfab7df14bc22d56cc34437ea64c59df8af404", func := "thermograph/thermographlaw07.BloomMore", spec := "bloomMore", unfollowed := true, recurses := true, apart := false }
def BloomMoreSaid : Prop := bloomMoreRow.holds Try.pinned (OpenSpec.ofChange bloomMoreSpec)

/-- ITS FALSE NEIGHBOUR: 'it returns false'. Refute it at one input. -/
def bloomMoreWrong : ChangeSpec := { name := "bloomMore", fn := fun _ => fun
  | [d1, d2] => { results := [.lit (.bool false)], args := [d1, d2] }
  | _ => none }
def BloomMoreWrongFalsely : Prop := bloomMoreRow.holds Try.pinned (OpenSpec.ofChange bloomMoreWrong)

/-- 'thermographlaw07.BloomParses': WHATEVER THE INPUT: true; the input reads as it did. -/
def bloomParsesSpec : ChangeSpec := { name := "bloomParses", fn := fun _ => fun
  | [d1, d2] => { results := [.lit (.bool true)], args := [d1, d2] }
  | _ => none }
def bloomParsesRow : OpenClaim := { program := "yteeimkafcadinaa", sum := "4631d0f7afa6035f75ef92aec5cfab7df14bc22d56cc34437ea64c59df8af404", func := "thermograph/thermographlaw07.BloomParses", spec := "bloomParses", unfollowed := true, recurses := true, apart := false }
def BloomParsesSaid : Prop := bloomParsesRow.holds Try.pinned (OpenSpec.ofChange bloomParsesSpec)

/-- ITS FALSE NEIGHBOUR: 'it returns false'. Refute it at one input. -/
def bloomParsesWrong : ChangeSpec := { name := "bloomParses", fn := fun _ => fun
  | [d1, d2] => { results := [.lit (.bool false)], args := [d1, d2] }
  | _ => none }
def BloomParsesWrongFalsely : Prop := bloomParsesRow.holds Try.pinned (OpenSpec.ofChange bloomParsesWrong)

/-- 'thermographlaw07.BloomOrder': WHATEVER THE INPUT: true; the input reads as it did. -/
def bloomOrderSpec : ChangeSpec := { name := "bloomOrder", fn := fun _ => fun
  | [d1, d2] => { results := [.lit (.bool true)], args := [d1, d2] }
  | _ => none }
def bloomOrderRow : OpenClaim := { program := "yteeimkafcadinaa", sum := "4631d0f7afa6035f75ef92aec5cfab7df14bc22d56cc34437ea64c59df8af404", func := "thermograph/thermographlaw07.BloomOrder", spec := "bloomOrder", unfollowed := true, recurses := true, apart := false }
def BloomOrderSaid : Prop := bloomOrderRow.holds Try.pinned (OpenSpec.ofChange bloomOrderSpec)

/-- ITS FALSE NEIGHBOUR: 'it returns false'. Refute it at one input. -/
def bloomOrderWrong : ChangeSpec := { name := "bloomOrder", fn := fun _ => fun
  | [d1, d2] => { results := [.lit (.bool false)], args := [d1, d2] }
  | _ => none }
def BloomOrderWrongFalsely : Prop := bloomOrderRow.holds Try.pinned (OpenSpec.ofChange bloomOrderWrong)

/-- 'thermographlaw07.BloomBits': WHATEVER THE INPUT: true; the input reads as it did. -/
def bloomBitsSpec : ChangeSpec := { name := "bloomBits", fn := fun _ => fun
  | [d1, d2] => { results := [.lit (.bool true)], args := [d1, d2] }
  | _ => none }
def bloomBitsRow : OpenClaim := { program := "yteeimkafcadinaa", sum := "4631d0f7afa6035f75ef92aec5cfab7df14bc22d56cc34437ea64c59df8af404", func := "thermograph/thermographlaw07.BloomBits", spec := "bloomBits", unfollowed := true, recurses := true, apart := false }
def BloomBitsSaid : Prop := bloomBitsRow.holds Try.pinned (OpenSpec.ofChange bloomBitsSpec)

/-- ITS FALSE NEIGHBOUR: 'it returns false'. Refute it at one input. -/
def bloomBitsWrong : ChangeSpec := { name := "bloomBits", fn := fun _ => fun
  | [d1, d2] => { results := [.lit (.bool false)], args := [d1, d2] }
  | _ => none }
def BloomBitsWrongFalsely : Prop := bloomBitsRow.holds Try.pinned (OpenSpec.ofChange bloomBitsWrong)

/-- 'thermographlaw07.BloomHas': WHATEVER THE INPUT: true; the input reads as it did. -/
def bloomHasSpec : ChangeSpec := { name := "bloomHas", fn := fun _ => fun
  | [d] => { results := [.lit (.bool true)], args := [d] }
  | _ => none }
def bloomHasRow : OpenClaim := { program := "yteeimkafcadinaa", sum := "4631d0f7afa6035f75ef92aec5cfab7df14bc22d56cc34437ea64c59df8af404", func := "thermograph/thermographlaw07.BloomHas", spec := "bloomHas", unfollowed := true, recurses := true, apart := false }
def BloomHasSaid : Prop := bloomHasRow.holds Try.pinned (OpenSpec.ofChange bloomHasSpec)

/-- ITS FALSE NEIGHBOUR: 'it returns false'. Refute it at one input. -/
def bloomHasWrong : ChangeSpec := { name := "bloomHas", fn := fun _ => fun
  | [d] => { results := [.lit (.bool false)], args := [d] }
  | _ => none }
def BloomHasWrongFalsely : Prop := bloomHasRow.holds Try.pinned (OpenSpec.ofChange bloomHasWrong)

/- THE SECOND FORM. 'bulk': how many values and letters a reading holds, each counted each time it is reached (what is shared counts as often as it is met; a slice's spare places count too). A statement '..UptoSaid' is the law's where the arguments, and the package variables that the reading takes, are together of bulk at most 1048576: NARROWER than '..Said'. Prove '..Said' where nothing that the law and all that it calls make is longer than what came in: it says more and counts as full. Else prove '..UptoSaid'. A law counts once. -/
mutual
def uptoBulk {H : Type} : DataW H → Nat
  | .lit (.string bytes) => bytes.length + 1
  | .lit _ => 1
  | .nil => 1
  | .ptr d => uptoBulk d + 1
  | .slice elems spare => uptoBulkAll elems + uptoBulkAll spare + 1
  | .agg parts => uptoBulkAll parts + 1
  | .iface _ d => uptoBulk d + 1
  | .map entries => uptoBulkEntries entries + 1
  | .held _ => 1
def uptoBulkAll {H : Type} : List (DataW H) → Nat
  | [] => 0
  | d :: r => uptoBulk d + uptoBulkAll r
def uptoBulkEntries {H : Type} : List (Lit × DataW H) → Nat
  | [] => 0
  | x :: r => uptoBulkEntry x + uptoBulkEntries r
def uptoBulkEntry {H : Type} : Lit × DataW H → Nat
  | (.string bytes, d) => bytes.length + uptoBulk d + 1
  | (_, d) => uptoBulk d + 1
 end
def uptoSmall : (H : Type) → List (DataW H) → Bool := fun _ ds => decide (uptoBulkAll ds ≤ 1048576)
def OpenSpec.upto (s : _root_.Go.ChangeSpec) : _root_.Go.OpenSpec := { _root_.Go.OpenSpec.ofChange s with cond := some uptoSmall }

/-- 'thermographlaw07.BloomMore', WHERE WHAT IT READS IS OF BULK AT MOST 1048576: true; the input reads as it did. -/
def bloomMoreUptoRow : OpenClaim := { program := "yteeimkafcadinaa", sum := "4631d0f7afa6035f75ef92aec5cfab7df14bc22d56cc34437ea64c59df8af404", func := "thermograph/thermographlaw07.BloomMore", spec := "bloomMore", unfollowed := true, recurses := true, apart := false, narrowed := true }
def BloomMoreUptoSaid : Prop := bloomMoreUptoRow.holds Try.pinned (OpenSpec.upto bloomMoreSpec)

/-- 'thermographlaw07.BloomParses', WHERE WHAT IT READS IS OF BULK AT MOST 1048576: true; the input reads as it did. -/
def bloomParsesUptoRow : OpenClaim := { program := "yteeimkafcadinaa", sum := "4631d0f7afa6035f75ef92aec5cfab7df14bc22d56cc34437ea64c59df8af404", func := "thermograph/thermographlaw07.BloomParses", spec := "bloomParses", unfollowed := true, recurses := true, apart := false, narrowed := true }
def BloomParsesUptoSaid : Prop := bloomParsesUptoRow.holds Try.pinned (OpenSpec.upto bloomParsesSpec)

/-- 'thermographlaw07.BloomOrder', WHERE WHAT IT READS IS OF BULK AT MOST 1048576: true; the input reads as it did. -/
def bloomOrderUptoRow : OpenClaim := { program := "yteeimkafcadinaa", sum := "4631d0f7afa6035f75ef92aec5cfab7df14bc22d56cc34437ea64c59df8af404", func := "thermograph/thermographlaw07.BloomOrder", spec := "bloomOrder", unfollowed := true, recurses := true, apart := false, narrowed := true }
def BloomOrderUptoSaid : Prop := bloomOrderUptoRow.holds Try.pinned (OpenSpec.upto bloomOrderSpec)

/-- 'thermographlaw07.BloomBits', WHERE WHAT IT READS IS OF BULK AT MOST 1048576: true; the input reads as it did. -/
def bloomBitsUptoRow : OpenClaim := { program := "yteeimkafcadinaa", sum := "4631d0f7afa6035f75ef92aec5cfab7df14bc22d56cc34437ea64c59df8af404", func := "thermograph/thermographlaw07.BloomBits", spec := "bloomBits", unfollowed := true, recurses := true, apart := false, narrowed := true }
def BloomBitsUptoSaid : Prop := bloomBitsUptoRow.holds Try.pinned (OpenSpec.upto bloomBitsSpec)

/-- 'thermographlaw07.BloomHas', WHERE WHAT IT READS IS OF BULK AT MOST 1048576: true; the input reads as it did. -/
def bloomHasUptoRow : OpenClaim := { program := "yteeimkafcadinaa", sum := "4631d0f7afa6035f75ef92aec5cfab7df14bc22d56cc34437ea64c59df8af404", func := "thermograph/thermographlaw07.BloomHas", spec := "bloomHas", unfollowed := true, recurses := true, apart := false, narrowed := true }
def BloomHasUptoSaid : Prop := bloomHasUptoRow.holds Try.pinned (OpenSpec.upto bloomHasSpec)

end Rows
end Go.Proofs.Yteeimkafcadinaa
