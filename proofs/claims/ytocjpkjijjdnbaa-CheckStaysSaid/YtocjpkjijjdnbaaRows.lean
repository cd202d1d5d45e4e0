/-
  No cell of these rows narrows 'for every input' (looked for: loops, veiled, ifaces, maps, wideKeys, modest, calm, conditions, laid).
  DERIVED. THE GIVEN ROWS OF THIS SEAT. 3 by the template 'for every input the law returns true; each argument reads behind the call as it read before'; 0 by the template 'total and deterministic' (their statements: YtocjpkjijjdnbaaTotals.lean).
  GIVEN WITH THE SEED: the statements are not yours to turn. If you find one false, say at which input.
  Laid BY PROGRAM, IN A SANDBOX (cutbox-rows.mjs): the forced cells as the released guide's own fill.sh prints them over the translation a0707933e8d272fb… (all of the seat's roots in one cut). By AI agents, Wed Nov 11 2026. No macro, syntax, notation, axiom, sorry.
-/
import Derived.Test.YtocjpkjijjdnbaaChecked
import GoSem.Claim
import GoSem.ClaimJoined
import GoSem.ClaimMapViews
import Derived.JoinedTies
import Derived.KernelRfl
namespace Go.Proofs.Ytocjpkjijjdnbaa
/- THE CELL 'sum', in the pinned program and in every row, IS THE sha256 OF THE DUMP (.gsa) THAT YtocjpkjijjdnbaaProg.lean LOADS. Nothing in Lean hashes anything: it is a label: what it is worth is what the hold of that sum in a sandbox is worth. -/
noncomputable def Try.pinned : Pinned := { name := "ytocjpkjijjdnbaa", sum := "a0707933e8d272fbb31cb4949161442e5466d427832d1a6ec067332edecac6b7", checked := Try.checked }
namespace Rows
def none {H : Type} : Left H := { results := [], args := [] }

/-- 'fettlelaw02.CheckAhead': WHATEVER THE INPUT: true; the input reads as it did. -/
def checkAheadSpec : ChangeSpec := { name := "checkAhead", fn := fun _ => fun
  | [d] => { results := [.lit (.bool true)], args := [d] }
  | _ => none }
def checkAheadRow : OpenClaim := { program := "ytocjpkjijjdnbaa", sum := "a0707933e8d272fbb31cb4949161442e5466d427832d1a6ec067332edecac6b7", func := "fettle/fettlelaw02.CheckAhead", spec := "checkAhead", unfollowed := true, recurses := true, apart := false }
def CheckAheadSaid : Prop := checkAheadRow.holds Try.pinned (OpenSpec.ofChange checkAheadSpec)

/-- ITS FALSE NEIGHBOUR: 'it returns false'. Refute it at one input. -/
def checkAheadWrong : ChangeSpec := { name := "checkAhead", fn := fun _ => fun
  | [d] => { results := [.lit (.bool false)], args := [d] }
  | _ => none }
def CheckAheadWrongFalsely : Prop := checkAheadRow.holds Try.pinned (OpenSpec.ofChange checkAheadWrong)

/-- 'fettlelaw02.CheckParts': WHATEVER THE INPUT: true; the input reads as it did. -/
def checkPartsSpec : ChangeSpec := { name := "checkParts", fn := fun _ => fun
  | [d1, d2] => { results := [.lit (.bool true)], args := [d1, d2] }
  | _ => none }
def checkPartsRow : OpenClaim := { program := "ytocjpkjijjdnbaa", sum := "a0707933e8d272fbb31cb4949161442e5466d427832d1a6ec067332edecac6b7", func := "fettle/fettlelaw02.CheckParts", spec := "checkParts", unfollowed := true, recurses := true, apart := false }
def CheckPartsSaid : Prop := checkPartsRow.holds Try.pinned (OpenSpec.ofChange checkPartsSpec)

/-- ITS FALSE NEIGHBOUR: 'it returns false'. Refute it at one input. -/
def checkPartsWrong : ChangeSpec := { name := "checkParts", fn := fun _ => fun
  | [d1, d2] => { results := [.lit (.bool false)], args := [d1, d2] }
  | _ => none }
def CheckPartsWrongFalsely : Prop := checkPartsRow.holds Try.pinned (OpenSpec.ofChange checkPartsWrong)

/-- 'fettlelaw02.CheckStays': WHATEVER THE INPUT: true; the input reads as it did. -/
def checkStaysSpec : ChangeSpec := { name := "checkStays", fn := fun _ => fun
  | [d1, d2] => { results := [.lit (.bool true)], args := [d1, d2] }
  | _ => none }
def checkStaysRow : OpenClaim := { program := "ytocjpkjijjdnbaa", sum := "a0707933e8d272fbb31cb4949161442e5466d427832d1a6ec067332edecac6b7", func := "fettle/fettlelaw02.CheckStays", spec := "checkStays", unfollowed := true, recurses := true, apart := false }
def CheckStaysSaid : Prop := checkStaysRow.holds Try.pinned (OpenSpec.ofChange checkStaysSpec)

/-- ITS FALSE NEIGHBOUR: 'it returns false'. Refute it at one input. -/
def checkStaysWrong : ChangeSpec := { name := "checkStays", fn := fun _ => fun
  | [d1, d2] => { results := [.lit (.bool false)], args := [d1, d2] }
  | _ => none }
def CheckStaysWrongFalsely : Prop := checkStaysRow.holds Try.pinned (OpenSpec.ofChange checkStaysWrong)

/- THE SECOND FORM. 'bulk': how many values and letters a reading holds, each counted each time it is reached (what is shared counts as often as it is met; a slice's spare places count too). A statement '..UptoSaid' is the law's where the arguments, and the package variables that the reading takes, are together of bulk at most 1048576: NARROWER than '..Said'. Prove '..Said' where nothing that the law and all that it calls make is longer than what came in: it says more and counts as full. Else prove '..UptoSaid'. A law counts once. -/
mutual
def uptoBulk {H : Type} : DataW H → Nat
  | .lit (.string bytes) => bytes.length + 1
  | .lit _ => 1
  | .nil => 1
  | .ptr d => uptoBulk d + 1
  | .slice elems spare => uptoBulkAll elems + uptoBulkAll spare + 1
  | .agg parts => uptoBulkAll parts + 1
  | .iface _ d => uptoBulk d + 1
  | .map entries => uptoBulkEntries entries + 1
  | .held _ => 1
def uptoBulkAll {H : Type} : List (DataW H) → Nat
  | [] => 0
  | d :: r => uptoBulk d + uptoBulkAll r
def uptoBulkEntries {H : Type} : List (Lit × DataW H) → Nat
  | [] => 0
  | x :: r => uptoBulkEntry x + uptoBulkEntries r
def uptoBulkEntry {H : Type} : Lit × DataW H → Nat
  | (.string bytes, d) => bytes.length + uptoBulk d + 1
  | (_, d) => uptoBulk d + 1
 end
def uptoSmall : (H : Type) → List (DataW H) → Bool := fun _ ds => decide (uptoBulkAll ds ≤ 1048576)
def OpenSpec.upto (s : _root_.Go.ChangeSpec) : _root_.Go.OpenSpec := { _root_.Go.OpenSpec.ofChange s with cond := some uptoSmall }

/-- 'fettlelaw02.CheckAhead', WHERE WHAT IT READS IS OF BULK AT MOST 1048576: true; the input reads as it did. -/
def checkAheadUptoRow : OpenClaim := { program := "ytocjpkjijjdnbaa", sum := "a0707933e8d272fbb31cb4949161442e5466d427832d1a6ec067332edecac6b7", func := "fettle/fettlelaw02.CheckAhead", spec := "checkAhead", unfollowed := true, recurses := true, apart := false, narrowed := true }
def CheckAheadUptoSaid : Prop := checkAheadUptoRow.holds Try.pinned (OpenSpec.upto checkAheadSpec)

/-- 'fettlelaw02.CheckParts', WHERE WHAT IT READS IS OF BULK AT MOST 1048576: true; the input reads as it did. -/
def checkPartsUptoRow : OpenClaim := { program := "ytocjpkjijjdnbaa", sum := "a0707933e8d272fbb31cb4949161442e5466d427832d1a6ec067332edecac6b7", func := "fettle/fettlelaw02.CheckParts", spec := "checkParts", unfollowed := true, recurses := true, apart := false, narrowed := true }
def CheckPartsUptoSaid : Prop := checkPartsUptoRow.holds Try.pinned (OpenSpec.upto checkPartsSpec)

/-- 'fettlelaw02.CheckStays', WHERE WHAT IT READS IS OF BULK AT MOST 1048576: true; the input reads as it did. -/
def checkStaysUptoRow : OpenClaim := { program := "ytocjpkjijjdnbaa", sum := "a0707933e8d272fbb31cb4949161442e5466d427832d1a6ec067332edecac6b7", func := "fettle/fettlelaw02.CheckStays", spec := "checkStays", unfollowed := true, recurses := true, apart := false, narrowed := true }
def CheckStaysUptoSaid : Prop := checkStaysUptoRow.holds Try.pinned (OpenSpec.upto checkStaysSpec)

end Rows
end Go.Proofs.Ytocjpkjijjdnbaa
