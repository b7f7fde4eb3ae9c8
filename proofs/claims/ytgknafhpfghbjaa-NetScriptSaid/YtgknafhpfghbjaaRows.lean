/-
  No cell of these rows narrows 'for every input' (looked for: loops, veiled, ifaces, maps, wideKeys, modest, calm, conditions, laid).
  DERIVED. THE GIVEN ROWS OF THIS SEAT. 5 by the template 'for every input the law returns true; each argument reads behind the call as it read before'; 0 by the template 'total and deterministic' (their statements: YtgknafhpfghbjaaTotals.lean).
  GIVEN WITH THE SEED: the statements are not yours to turn. If you find one false, say at which input.
  Laid BY PROGRAM, IN A SANDBOX (cutbox-rows.mjs): the forced cells as the released guide's own fill.sh prints them over the translation d301784f11448565… (all of the seat's roots in one cut). By AI agents, Wed Nov 11 2026. No macro, syntax, notation, axiom, sorry.
-/
import Derived.Test.YtgknafhpfghbjaaChecked
import GoSem.Claim
import GoSem.ClaimJoined
import GoSem.ClaimMapViews
import Derived.JoinedTies
import Derived.KernelRfl
namespace Go.Proofs.Ytgknafhpfghbjaa
/- THE CELL 'sum', in the pinned program and in every row, IS THE sha256 OF THE DUMP (.gsa) THAT YtgknafhpfghbjaaProg.lean LOADS. Nothing in Lean hashes anything: it is a label: what it is worth is what the hold of that sum in a sandbox is worth. -/
noncomputable def Try.pinned : Pinned := { name := "ytgknafhpfghbjaa", sum := "d301784f11448565059b6d455ec728994e62abf4b87d1d1aa1e09dbe1c9a2021", checked := Try.checked }
namespace Rows
def none {H : Type} : Left H := { results := [], args := [] }

/-- 'thermographlaw02.NetAll': WHATEVER THE INPUT: true; the input reads as it did. -/
def netAllSpec : ChangeSpec := { name := "netAll", fn := fun _ => fun
  | [d1, d2] => { results := [.lit (.bool true)], args := [d1, d2] }
  | _ => none }
def netAllRow : OpenClaim := { program := "ytgknafhpfghbjaa", sum := "d301784f11448565059b6d455ec728994e62abf4b87d1d1aa1e09dbe1c9a2021", func := "thermograph/thermographlaw02.NetAll", spec := "netAll", apart := false }
def NetAllSaid : Prop := netAllRow.holds Try.pinned (OpenSpec.ofChange netAllSpec)

/-- ITS FALSE NEIGHBOUR: 'it returns false'. Refute it at one input. -/
def netAllWrong : ChangeSpec := { name := "netAll", fn := fun _ => fun
  | [d1, d2] => { results := [.lit (.bool false)], args := [d1, d2] }
  | _ => none }
def NetAllWrongFalsely : Prop := netAllRow.holds Try.pinned (OpenSpec.ofChange netAllWrong)

/-- 'thermographlaw02.NetOrder': WHATEVER THE INPUT: true; the input reads as it did. -/
def netOrderSpec : ChangeSpec := { name := "netOrder", fn := fun _ => fun
  | [d] => { results := [.lit (.bool true)], args := [d] }
  | _ => none }
def netOrderRow : OpenClaim := { program := "ytgknafhpfghbjaa", sum := "d301784f11448565059b6d455ec728994e62abf4b87d1d1aa1e09dbe1c9a2021", func := "thermograph/thermographlaw02.NetOrder", spec := "netOrder", apart := false }
def NetOrderSaid : Prop := netOrderRow.holds Try.pinned (OpenSpec.ofChange netOrderSpec)

/-- ITS FALSE NEIGHBOUR: 'it returns false'. Refute it at one input. -/
def netOrderWrong : ChangeSpec := { name := "netOrder", fn := fun _ => fun
  | [d] => { results := [.lit (.bool false)], args := [d] }
  | _ => none }
def NetOrderWrongFalsely : Prop := netOrderRow.holds Try.pinned (OpenSpec.ofChange netOrderWrong)

/-- 'thermographlaw02.NetCounts': WHATEVER THE INPUT: true; the input reads as it did. -/
def netCountsSpec : ChangeSpec := { name := "netCounts", fn := fun _ => fun
  | [d] => { results := [.lit (.bool true)], args := [d] }
  | _ => none }
def netCountsRow : OpenClaim := { program := "ytgknafhpfghbjaa", sum := "d301784f11448565059b6d455ec728994e62abf4b87d1d1aa1e09dbe1c9a2021", func := "thermograph/thermographlaw02.NetCounts", spec := "netCounts", apart := false }
def NetCountsSaid : Prop := netCountsRow.holds Try.pinned (OpenSpec.ofChange netCountsSpec)

/-- ITS FALSE NEIGHBOUR: 'it returns false'. Refute it at one input. -/
def netCountsWrong : ChangeSpec := { name := "netCounts", fn := fun _ => fun
  | [d] => { results := [.lit (.bool false)], args := [d] }
  | _ => none }
def NetCountsWrongFalsely : Prop := netCountsRow.holds Try.pinned (OpenSpec.ofChange netCountsWrong)

/-- 'thermographlaw02.NetDoubles': WHATEVER THE INPUT: true; the input reads as it did. -/
def netDoublesSpec : ChangeSpec := { name := "netDoubles", fn := fun _ => fun
  | [d1, d2] => { results := [.lit (.bool true)], args := [d1, d2] }
  | _ => none }
def netDoublesRow : OpenClaim := { program := "ytgknafhpfghbjaa", sum := "d301784f11448565059b6d455ec728994e62abf4b87d1d1aa1e09dbe1c9a2021", func := "thermograph/thermographlaw02.NetDoubles", spec := "netDoubles", apart := false }
def NetDoublesSaid : Prop := netDoublesRow.holds Try.pinned (OpenSpec.ofChange netDoublesSpec)

/-- ITS FALSE NEIGHBOUR: 'it returns false'. Refute it at one input. -/
def netDoublesWrong : ChangeSpec := { name := "netDoubles", fn := fun _ => fun
  | [d1, d2] => { results := [.lit (.bool false)], args := [d1, d2] }
  | _ => none }
def NetDoublesWrongFalsely : Prop := netDoublesRow.holds Try.pinned (OpenSpec.ofChange netDoublesWrong)

/-- 'thermographlaw02.NetScript': WHATEVER THE INPUT: true; the input reads as it did. -/
def netScriptSpec : ChangeSpec := { name := "netScript", fn := fun _ => fun
  | [d] => { results := [.lit (.bool true)], args := [d] }
  | _ => none }
def netScriptRow : OpenClaim := { program := "ytgknafhpfghbjaa", sum := "d301784f11448565059b6d455ec728994e62abf4b87d1d1aa1e09dbe1c9a2021", func := "thermograph/thermographlaw02.NetScript", spec := "netScript", apart := false }
def NetScriptSaid : Prop := netScriptRow.holds Try.pinned (OpenSpec.ofChange netScriptSpec)

/-- ITS FALSE NEIGHBOUR: 'it returns false'. Refute it at one input. -/
def netScriptWrong : ChangeSpec := { name := "netScript", fn := fun _ => fun
  | [d] => { results := [.lit (.bool false)], args := [d] }
  | _ => none }
def NetScriptWrongFalsely : Prop := netScriptRow.holds Try.pinned (OpenSpec.ofChange netScriptWrong)

/- THE SECOND FORM. 'bulk': how many values and letters a reading holds, each counted each time it is reached (what is shared counts as often as it is met; a slice's spare places count too). A statement '..UptoSaid' is the law's where the arguments, and the package variables that the reading takes, are together of bulk at most 1048576: NARROWER than '..Said'. Prove '..Said' where nothing that the law and all that it calls make is longer than what came in: it says more and counts as full. Else prove '..UptoSaid'. A law counts once. -/
mutual
def uptoBulk {H : Type} : DataW H → Nat
  | .lit (.string bytes) => bytes.length + 1
  | .lit _ => 1
  | .nil => 1
  | .ptr d => uptoBulk d + 1
  | .slice elems spare => uptoBulkAll elems + uptoBulkAll spare + 1
  | .agg parts => uptoBulkAll parts + 1
  | .iface _ d => uptoBulk d + 1
  | .map entries => uptoBulkEntries entries + 1
  | .held _ => 1
def uptoBulkAll {H : Type} : List (DataW H) → Nat
  | [] => 0
  | d :: r => uptoBulk d + uptoBulkAll r
def uptoBulkEntries {H : Type} : List (Lit × DataW H) → Nat
  | [] => 0
  | x :: r => uptoBulkEntry x + uptoBulkEntries r
def uptoBulkEntry {H : Type} : Lit × DataW H → Nat
  | (.string bytes, d) => bytes.length + uptoBulk d + 1
  | (_, d) => uptoBulk d + 1
 end
def uptoSmall : (H : Type) → List (DataW H) → Bool := fun _ ds => decide (uptoBulkAll ds ≤ 1048576)
def OpenSpec.upto (s : _root_.Go.ChangeSpec) : _root_.Go.OpenSpec := { _root_.Go.OpenSpec.ofChange s with cond := some uptoSmall }

/-- 'thermographlaw02.NetAll', WHERE WHAT IT READS IS OF BULK AT MOST 1048576: true; the input reads as it did. -/
def netAllUptoRow : OpenClaim := { program := "ytgknafhpfghbjaa", sum := "d301784f11448565059b6d455ec728994e62abf4b87d1d1aa1e09dbe1c9a2021", func := "thermograph/thermographlaw02.NetAll", spec := "netAll", apart := false, narrowed := true }
def NetAllUptoSaid : Prop := netAllUptoRow.holds Try.pinned (OpenSpec.upto netAllSpec)

/-- 'thermographlaw02.NetOrder', WHERE WHAT IT READS IS OF BULK AT MOST 1048576: true; the input reads as it did. -/
def netOrderUptoRow : OpenClaim := { program := "ytgknafhpfghbjaa", sum := "d301784f11448565059b6d455ec728994e62abf4b87d1d1aa1e09dbe1c9a2021", func := "thermograph/thermographlaw02.NetOrder", spec := "netOrder", apart := false, narrowed := true }
def NetOrderUptoSaid : Prop := netOrderUptoRow.holds Try.pinned (OpenSpec.upto netOrderSpec)

/-- 'thermographlaw02.NetCounts', WHERE WHAT IT READS IS OF BULK AT MOST 1048576: true; the input reads as it did. -/
def netCountsUptoRow : OpenClaim := { program := "ytgknafhpfghbjaa", sum := "d301784f11448565059b6d455ec728994e62abf4b87d1d1aa1e09dbe1c9a2021", func := "thermograph/thermographlaw02.NetCounts", spec := "netCounts", apart := false, narrowed := true }
def NetCountsUptoSaid : Prop := netCountsUptoRow.holds Try.pinned (OpenSpec.upto netCountsSpec)

/-- 'thermographlaw02.NetDoubles', WHERE WHAT IT READS IS OF BULK AT MOST 1048576: true; the input reads as it did. -/
def netDoublesUptoRow : OpenClaim := { program := "ytgknafhpfghbjaa", sum := "d301784f11448565059b6d455ec728994e62abf4b87d1d1aa1e09dbe1c9a2021", func := "thermograph/thermographlaw02.NetDoubles", spec := "netDoubles", apart := false, narrowed := true }
def NetDoublesUptoSaid : Prop := netDoublesUptoRow.holds Try.pinned (OpenSpec.upto netDoublesSpec)

/-- 'thermographlaw02.NetScript', WHERE WHAT IT READS IS OF BULK AT MOST 1048576: true; the input reads as it did. -/
def netScriptUptoRow : OpenClaim := { program := "ytgknafhpfghbjaa", sum := "d301784f11448565059b6d455ec728994e62abf4b87d1d1aa1e09dbe1c9a2021", func := "thermograph/thermographlaw02.NetScript", spec := "netScript", apart := false, narrowed := true }
def NetScriptUptoSaid : Prop := netScriptUptoRow.holds Try.pinned (OpenSpec.upto netScriptSpec)

end Rows
end Go.Proofs.Ytgknafhpfghbjaa
