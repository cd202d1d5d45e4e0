/-
  No cell of these rows narrows 'for every input' (looked for: loops, veiled, ifaces, maps, wideKeys, modest, calm, conditions, laid).
  DERIVED. THE GIVEN ROWS OF THIS SEAT. 8 by the template 'for every input the law returns true; each argument reads behind the call as it read before'; 0 by the template 'total and deterministic' (their statements: YtenlbbookiopiaaTotals.lean).
  GIVEN WITH THE SEED: the statements are not yours to turn. If you find one false, say at which input.
  Laid BY PROGRAM, IN A SANDBOX (cutbox-rows.mjs): the forced cells as the released guide's own fill.sh prints them over the translation c797efcb0c7d9a3d… (all of the seat's roots in one cut). By AI agents, Wed Nov 11 2026. No macro, syntax, notation, axiom, sorry.
-/
import Derived.Test.YtenlbbookiopiaaChecked
import GoSem.Claim
import GoSem.ClaimJoined
import GoSem.ClaimMapViews
import Derived.JoinedTies
import Derived.KernelRfl
namespace Go.Proofs.Ytenlbbookiopiaa
/- THE CELL 'sum', in the pinned program and in every row, IS THE sha256 OF THE DUMP (.gsa) THAT YtenlbbookiopiaaProg.lean LOADS. Nothing in Lean hashes anything: it is a label: what it is worth is what the hold of that sum in a sandbox is worth. -/
noncomputable def Try.pinned : Pinned := { name := "ytenlbbookiopiaa", sum := "c797efcb0c7d9a3d67795bc3fcda3309ccaf8af2e303375b18190fc8a450696b", checked := Try.checked }
namespace Rows
def none {H : Type} : Left H := { results := [], args := [] }

/-- 'fettlelaw01.ArithEvals': WHATEVER THE INPUT: true; the input reads as it did. -/
def arithEvalsSpec : ChangeSpec := { name := "arithEvals", fn := fun _ => fun
  | [d1, d2] => { results := [.lit (.bool true)], args := [d1, d2] }
  | _ => none }
def arithEvalsRow : OpenClaim := { program := "ytenlbbookiopiaa", sum := "c797efcb0c7d9a3d67795bc3fcda3309ccaf8af2e303375b18190fc8a450696b", func := "fettle/fettlelaw01.ArithEvals", spec := "arithEvals", apart := false }
def ArithEvalsSaid : Prop := arithEvalsRow.holds Try.pinned (OpenSpec.ofChange arithEvalsSpec)

/-- ITS FALSE NEIGHBOUR: 'it returns false'. Refute it at one input. -/
def arithEvalsWrong : ChangeSpec := { name := "arithEvals", fn := fun _ => fun
  | [d1, d2] => { results := [.lit (.bool false)], args := [d1, d2] }
  | _ => none }
def ArithEvalsWrongFalsely : Prop := arithEvalsRow.holds Try.pinned (OpenSpec.ofChange arithEvalsWrong)

/-- 'fettlelaw01.ArithTwo': WHATEVER THE INPUT: true; the input reads as it did. -/
def arithTwoSpec : ChangeSpec := { name := "arithTwo", fn := fun _ => fun
  | [d1, d2] => { results := [.lit (.bool true)], args := [d1, d2] }
  | _ => none }
def arithTwoRow : OpenClaim := { program := "ytenlbbookiopiaa", sum := "c797efcb0c7d9a3d67795bc3fcda3309ccaf8af2e303375b18190fc8a450696b", func := "fettle/fettlelaw01.ArithTwo", spec := "arithTwo", apart := false }
def ArithTwoSaid : Prop := arithTwoRow.holds Try.pinned (OpenSpec.ofChange arithTwoSpec)

/-- ITS FALSE NEIGHBOUR: 'it returns false'. Refute it at one input. -/
def arithTwoWrong : ChangeSpec := { name := "arithTwo", fn := fun _ => fun
  | [d1, d2] => { results := [.lit (.bool false)], args := [d1, d2] }
  | _ => none }
def ArithTwoWrongFalsely : Prop := arithTwoRow.holds Try.pinned (OpenSpec.ofChange arithTwoWrong)

/-- 'fettlelaw01.ArithBack': WHATEVER THE INPUT: true; the input reads as it did. -/
def arithBackSpec : ChangeSpec := { name := "arithBack", fn := fun _ => fun
  | [d1, d2] => { results := [.lit (.bool true)], args := [d1, d2] }
  | _ => none }
def arithBackRow : OpenClaim := { program := "ytenlbbookiopiaa", sum := "c797efcb0c7d9a3d67795bc3fcda3309ccaf8af2e303375b18190fc8a450696b", func := "fettle/fettlelaw01.ArithBack", spec := "arithBack", apart := false }
def ArithBackSaid : Prop := arithBackRow.holds Try.pinned (OpenSpec.ofChange arithBackSpec)

/-- ITS FALSE NEIGHBOUR: 'it returns false'. Refute it at one input. -/
def arithBackWrong : ChangeSpec := { name := "arithBack", fn := fun _ => fun
  | [d1, d2] => { results := [.lit (.bool false)], args := [d1, d2] }
  | _ => none }
def ArithBackWrongFalsely : Prop := arithBackRow.holds Try.pinned (OpenSpec.ofChange arithBackWrong)

/-- 'fettlelaw01.ArithStays': WHATEVER THE INPUT: true; the input reads as it did. -/
def arithStaysSpec : ChangeSpec := { name := "arithStays", fn := fun _ => fun
  | [d1, d2] => { results := [.lit (.bool true)], args := [d1, d2] }
  | _ => none }
def arithStaysRow : OpenClaim := { program := "ytenlbbookiopiaa", sum := "c797efcb0c7d9a3d67795bc3fcda3309ccaf8af2e303375b18190fc8a450696b", func := "fettle/fettlelaw01.ArithStays", spec := "arithStays", apart := false }
def ArithStaysSaid : Prop := arithStaysRow.holds Try.pinned (OpenSpec.ofChange arithStaysSpec)

/-- ITS FALSE NEIGHBOUR: 'it returns false'. Refute it at one input. -/
def arithStaysWrong : ChangeSpec := { name := "arithStays", fn := fun _ => fun
  | [d1, d2] => { results := [.lit (.bool false)], args := [d1, d2] }
  | _ => none }
def ArithStaysWrongFalsely : Prop := arithStaysRow.holds Try.pinned (OpenSpec.ofChange arithStaysWrong)

/-- 'fettlelaw01.ArithOrder': WHATEVER THE INPUT: true; the input reads as it did. -/
def arithOrderSpec : ChangeSpec := { name := "arithOrder", fn := fun _ => fun
  | [d1, d2, d3] => { results := [.lit (.bool true)], args := [d1, d2, d3] }
  | _ => none }
def arithOrderRow : OpenClaim := { program := "ytenlbbookiopiaa", sum := "c797efcb0c7d9a3d67795bc3fcda3309ccaf8af2e303375b18190fc8a450696b", func := "fettle/fettlelaw01.ArithOrder", spec := "arithOrder", apart := false }
def ArithOrderSaid : Prop := arithOrderRow.holds Try.pinned (OpenSpec.ofChange arithOrderSpec)

/-- ITS FALSE NEIGHBOUR: 'it returns false'. Refute it at one input. -/
def arithOrderWrong : ChangeSpec := { name := "arithOrder", fn := fun _ => fun
  | [d1, d2, d3] => { results := [.lit (.bool false)], args := [d1, d2, d3] }
  | _ => none }
def ArithOrderWrongFalsely : Prop := arithOrderRow.holds Try.pinned (OpenSpec.ofChange arithOrderWrong)

/-- 'fettlelaw01.ArithPlaces': WHATEVER THE INPUT: true; the input reads as it did. -/
def arithPlacesSpec : ChangeSpec := { name := "arithPlaces", fn := fun _ => fun
  | [d1, d2, d3] => { results := [.lit (.bool true)], args := [d1, d2, d3] }
  | _ => none }
def arithPlacesRow : OpenClaim := { program := "ytenlbbookiopiaa", sum := "c797efcb0c7d9a3d67795bc3fcda3309ccaf8af2e303375b18190fc8a450696b", func := "fettle/fettlelaw01.ArithPlaces", spec := "arithPlaces", apart := false }
def ArithPlacesSaid : Prop := arithPlacesRow.holds Try.pinned (OpenSpec.ofChange arithPlacesSpec)

/-- ITS FALSE NEIGHBOUR: 'it returns false'. Refute it at one input. -/
def arithPlacesWrong : ChangeSpec := { name := "arithPlaces", fn := fun _ => fun
  | [d1, d2, d3] => { results := [.lit (.bool false)], args := [d1, d2, d3] }
  | _ => none }
def ArithPlacesWrongFalsely : Prop := arithPlacesRow.holds Try.pinned (OpenSpec.ofChange arithPlacesWrong)

/-- 'fettlelaw01.ArithGroups': WHATEVER THE INPUT: true; the input reads as it did. -/
def arithGroupsSpec : ChangeSpec := { name := "arithGroups", fn := fun _ => fun
  | [d1, d2, d3] => { results := [.lit (.bool true)], args := [d1, d2, d3] }
  | _ => none }
def arithGroupsRow : OpenClaim := { program := "ytenlbbookiopiaa", sum := "c797efcb0c7d9a3d67795bc3fcda3309ccaf8af2e303375b18190fc8a450696b", func := "fettle/fettlelaw01.ArithGroups", spec := "arithGroups", apart := false }
def ArithGroupsSaid : Prop := arithGroupsRow.holds Try.pinned (OpenSpec.ofChange arithGroupsSpec)

/-- ITS FALSE NEIGHBOUR: 'it returns false'. Refute it at one input. -/
def arithGroupsWrong : ChangeSpec := { name := "arithGroups", fn := fun _ => fun
  | [d1, d2, d3] => { results := [.lit (.bool false)], args := [d1, d2, d3] }
  | _ => none }
def ArithGroupsWrongFalsely : Prop := arithGroupsRow.holds Try.pinned (OpenSpec.ofChange arithGroupsWrong)

/-- 'fettlelaw01.ArithKinds': WHATEVER THE INPUT: true; the input reads as it did. -/
def arithKindsSpec : ChangeSpec := { name := "arithKinds", fn := fun _ => fun
  | [d] => { results := [.lit (.bool true)], args := [d] }
  | _ => none }
def arithKindsRow : OpenClaim := { program := "ytenlbbookiopiaa", sum := "c797efcb0c7d9a3d67795bc3fcda3309ccaf8af2e303375b18190fc8a450696b", func := "fettle/fettlelaw01.ArithKinds", spec := "arithKinds", apart := false }
def ArithKindsSaid : Prop := arithKindsRow.holds Try.pinned (OpenSpec.ofChange arithKindsSpec)

/-- ITS FALSE NEIGHBOUR: 'it returns false'. Refute it at one input. -/
def arithKindsWrong : ChangeSpec := { name := "arithKinds", fn := fun _ => fun
  | [d] => { results := [.lit (.bool false)], args := [d] }
  | _ => none }
def ArithKindsWrongFalsely : Prop := arithKindsRow.holds Try.pinned (OpenSpec.ofChange arithKindsWrong)

/- THE SECOND FORM. 'bulk': how many values and letters a reading holds, each counted each time it is reached (what is shared counts as often as it is met; a slice's spare places count too). A statement '..UptoSaid' is the law's where the arguments, and the package variables that the reading takes, are together of bulk at most 1048576: NARROWER than '..Said'. Prove '..Said' where nothing that the law and all that it calls make is longer than what came in: it says more and counts as full. Else prove '..UptoSaid'. A law counts once. -/
mutual
def uptoBulk {H : Type} : DataW H → Nat
  | .lit (.string bytes) => bytes.length + 1
  | .lit _ => 1
  | .nil => 1
  | .ptr d => uptoBulk d + 1
  | .slice elems spare => uptoBulkAll elems + uptoBulkAll spare + 1
  | .agg parts => uptoBulkAll parts + 1
  | .iface _ d => uptoBulk d + 1
  | .map entries => uptoBulkEntries entries + 1
  | .held _ => 1
def uptoBulkAll {H : Type} : List (DataW H) → Nat
  | [] => 0
  | d :: r => uptoBulk d + uptoBulkAll r
def uptoBulkEntries {H : Type} : List (Lit × DataW H) → Nat
  | [] => 0
  | x :: r => uptoBulkEntry x + uptoBulkEntries r
def uptoBulkEntry {H : Type} : Lit × DataW H → Nat
  | (.string bytes, d) => bytes.length + uptoBulk d + 1
  | (_, d) => uptoBulk d + 1
 end
def uptoSmall : (H : Type) → List (DataW H) → Bool := fun _ ds => decide (uptoBulkAll ds ≤ 1048576)
def OpenSpec.upto (s : _root_.Go.ChangeSpec) : _root_.Go.OpenSpec := { _root_.Go.OpenSpec.ofChange s with cond := some uptoSmall }

/-- 'fettlelaw01.ArithEvals', WHERE WHAT IT READS IS OF BULK AT MOST 1048576: true; the input reads as it did. -/
def arithEvalsUptoRow : OpenClaim := { program := "ytenlbbookiopiaa", sum := "c797efcb0c7d9a3d67795bc3fcda3309ccaf8af2e303375b18190fc8a450696b", func := "fettle/fettlelaw01.ArithEvals", spec := "arithEvals", apart := false, narrowed := true }
def ArithEvalsUptoSaid : Prop := arithEvalsUptoRow.holds Try.pinned (OpenSpec.upto arithEvalsSpec)

/-- 'fettlelaw01.ArithTwo', WHERE WHAT IT READS IS OF BULK AT MOST 1048576: true; the input reads as it did. -/
def arithTwoUptoRow : OpenClaim := { program := "ytenlbbookiopiaa", sum := "c797efcb0c7d9a3d67795bc3fcda3309ccaf8af2e303375b18190fc8a450696b", func := "fettle/fettlelaw01.ArithTwo", spec := "arithTwo", apart := false, narrowed := true }
def ArithTwoUptoSaid : Prop := arithTwoUptoRow.holds Try.pinned (OpenSpec.upto arithTwoSpec)

/-- 'fettlelaw01.ArithBack', WHERE WHAT IT READS IS OF BULK AT MOST 1048576: true; the input reads as it did. -/
def arithBackUptoRow : OpenClaim := { program := "ytenlbbookiopiaa", sum := "c797efcb0c7d9a3d67795bc3fcda3309ccaf8af2e303375b18190fc8a450696b", func := "fettle/fettlelaw01.ArithBack", spec := "arithBack", apart := false, narrowed := true }
def ArithBackUptoSaid : Prop := arithBackUptoRow.holds Try.pinned (OpenSpec.upto arithBackSpec)

/-- 'fettlelaw01.ArithStays', WHERE WHAT IT READS IS OF BULK AT MOST 1048576: true; the input reads as it did. -/
def arithStaysUptoRow : OpenClaim := { program := "ytenlbbookiopiaa", sum := "c797efcb0c7d9a3d67795bc3fcda3309ccaf8af2e303375b18190fc8a450696b", func := "fettle/fettlelaw01.ArithStays", spec := "arithStays", apart := false, narrowed := true }
def ArithStaysUptoSaid : Prop := arithStaysUptoRow.holds Try.pinned (OpenSpec.upto arithStaysSpec)

/-- 'fettlelaw01.ArithOrder', WHERE WHAT IT READS IS OF BULK AT MOST 1048576: true; the input reads as it did. -/
def arithOrderUptoRow : OpenClaim := { program := "ytenlbbookiopiaa", sum := "c797efcb0c7d9a3d67795bc3fcda3309ccaf8af2e303375b18190fc8a450696b", func := "fettle/fettlelaw01.ArithOrder", spec := "arithOrder", apart := false, narrowed := true }
def ArithOrderUptoSaid : Prop := arithOrderUptoRow.holds Try.pinned (OpenSpec.upto arithOrderSpec)

/-- 'fettlelaw01.ArithPlaces', WHERE WHAT IT READS IS OF BULK AT MOST 1048576: true; the input reads as it did. -/
def arithPlacesUptoRow : OpenClaim := { program := "ytenlbbookiopiaa", sum := "c797efcb0c7d9a3d67795bc3fcda3309ccaf8af2e303375b18190fc8a450696b", func := "fettle/fettlelaw01.ArithPlaces", spec := "arithPlaces", apart := false, narrowed := true }
def ArithPlacesUptoSaid : Prop := arithPlacesUptoRow.holds Try.pinned (OpenSpec.upto arithPlacesSpec)

/-- 'fettlelaw01.ArithGroups', WHERE WHAT IT READS IS OF BULK AT MOST 1048576: true; the input reads as it did. -/
def arithGroupsUptoRow : OpenClaim := { program := "ytenlbbookiopiaa", sum := "c797efcb0c7d9a3d67795bc3fcda3309ccaf8af2e303375b18190fc8a450696b", func := "fettle/fettlelaw01.ArithGroups", spec := "arithGroups", apart := false, narrowed := true }
def ArithGroupsUptoSaid : Prop := arithGroupsUptoRow.holds Try.pinned (OpenSpec.upto arithGroupsSpec)

/-- 'fettlelaw01.ArithKinds', WHERE WHAT IT READS IS OF BULK AT MOST 1048576: true; the input reads as it did. -/
def arithKindsUptoRow : OpenClaim := { program := "ytenlbbookiopiaa", sum := "c797efcb0c7d9a3d67795bc3fcda3309ccaf8af2e303375b18190fc8a450696b", func := "fettle/fettlelaw01.ArithKinds", spec := "arithKinds", apart := false, narrowed := true }
def ArithKindsUptoSaid : Prop := arithKindsUptoRow.holds Try.pinned (OpenSpec.upto arithKindsSpec)

end Rows
end Go.Proofs.Ytenlbbookiopiaa
