/-
  No cell of these rows narrows 'for every input' (looked for: loops, veiled, ifaces, maps, wideKeys, modest, calm, conditions, laid).
  DERIVED. THE GIVEN ROWS OF THIS SEAT. 4 by the template 'for every input the law returns true; each argument reads behind the call as it read before'; 0 by the template 'total and deterministic' (their statements: YtaedbjjjdafabaaTotals.lean).
  GIVEN WITH THE SEED: the statements are not yours to turn. If you find one false, say at which input.
  Laid BY PROGRAM, IN A SANDBOX (cutbox-rows.mjs): the forced cells as the released guide's own fill.sh prints them over the translation 7561a660734152d6… (all of the seat's roots in one cut). By AI agents, Wed Nov 11 2026. No macro, syntax, notation, axiom, sorry.
-/
import Derived.Test.YtaedbjjjdafabaaChecked
import GoSem.Claim
import GoSem.ClaimJoined
import GoSem.ClaimMapViews
import Derived.JoinedTies
import Derived.KernelRfl
namespace Go.Proofs.Ytaedbjjjdafabaa
/- THE CELL 'sum', in the pinned program and in every row, IS THE sha256 OF THE DUMP (.gsa) THAT YtaedbjjjdafabaaProg.lean LOADS. Nothing in Lean hashes anything: it is a label: what it is worth is what the hold of that sum in a sandbox is worth. -/
noncomputable def Try.pinned : Pinned := { name := "ytaedbjjjdafabaa", sum := "7561a660734152d6e786305fcbcbcdd9bec4052a38596431a245dfbab9aa2ab2", checked := Try.checked }
namespace Rows
def none {H : Type} : Left H := { results := [], args := [] }

/-- 'fettlelaw10.InternFull': WHATEVER THE INPUT: true; the input reads as it did. -/
def internFullSpec : ChangeSpec := { name := "internFull", fn := fun _ => fun
  | [d1, d2] => { results := [.lit (.bool true)], args := [d1, d2] }
  | _ => none }
def internFullRow : OpenClaim := { program := "ytaedbjjjdafabaa", sum := "7561a660734152d6e786305fcbcbcdd9bec4052a38596431a245dfbab9aa2ab2", func := "fettle/fettlelaw10.InternFull", spec := "internFull", plainKeys := false, apart := false }
def InternFullSaid : Prop := internFullRow.holds Try.pinned (OpenSpec.ofChange internFullSpec)

/-- ITS FALSE NEIGHBOUR: 'it returns false'. Refute it at one input. -/
def internFullWrong : ChangeSpec := { name := "internFull", fn := fun _ => fun
  | [d1, d2] => { results := [.lit (.bool false)], args := [d1, d2] }
  | _ => none }
def InternFullWrongFalsely : Prop := internFullRow.holds Try.pinned (OpenSpec.ofChange internFullWrong)

/-- 'fettlelaw10.InternNew': WHATEVER THE INPUT: true; the input reads as it did. -/
def internNewSpec : ChangeSpec := { name := "internNew", fn := fun _ => fun
  | [d] => { results := [.lit (.bool true)], args := [d] }
  | _ => none }
def internNewRow : OpenClaim := { program := "ytaedbjjjdafabaa", sum := "7561a660734152d6e786305fcbcbcdd9bec4052a38596431a245dfbab9aa2ab2", func := "fettle/fettlelaw10.InternNew", spec := "internNew", unfollowed := true, recurses := true, plainKeys := false, apart := false }
def InternNewSaid : Prop := internNewRow.holds Try.pinned (OpenSpec.ofChange internNewSpec)

/-- ITS FALSE NEIGHBOUR: 'it returns false'. Refute it at one input. -/
def internNewWrong : ChangeSpec := { name := "internNew", fn := fun _ => fun
  | [d] => { results := [.lit (.bool false)], args := [d] }
  | _ => none }
def InternNewWrongFalsely : Prop := internNewRow.holds Try.pinned (OpenSpec.ofChange internNewWrong)

/-- 'fettlelaw10.InternSame': WHATEVER THE INPUT: true; the input reads as it did. -/
def internSameSpec : ChangeSpec := { name := "internSame", fn := fun _ => fun
  | [d1, d2, d3, d4] => { results := [.lit (.bool true)], args := [d1, d2, d3, d4] }
  | _ => none }
def internSameRow : OpenClaim := { program := "ytaedbjjjdafabaa", sum := "7561a660734152d6e786305fcbcbcdd9bec4052a38596431a245dfbab9aa2ab2", func := "fettle/fettlelaw10.InternSame", spec := "internSame", unfollowed := true, recurses := true, plainKeys := false, apart := false }
def InternSameSaid : Prop := internSameRow.holds Try.pinned (OpenSpec.ofChange internSameSpec)

/-- ITS FALSE NEIGHBOUR: 'it returns false'. Refute it at one input. -/
def internSameWrong : ChangeSpec := { name := "internSame", fn := fun _ => fun
  | [d1, d2, d3, d4] => { results := [.lit (.bool false)], args := [d1, d2, d3, d4] }
  | _ => none }
def InternSameWrongFalsely : Prop := internSameRow.holds Try.pinned (OpenSpec.ofChange internSameWrong)

/-- 'fettlelaw10.InternStays': WHATEVER THE INPUT: true; the input reads as it did. -/
def internStaysSpec : ChangeSpec := { name := "internStays", fn := fun _ => fun
  | [d1, d2] => { results := [.lit (.bool true)], args := [d1, d2] }
  | _ => none }
def internStaysRow : OpenClaim := { program := "ytaedbjjjdafabaa", sum := "7561a660734152d6e786305fcbcbcdd9bec4052a38596431a245dfbab9aa2ab2", func := "fettle/fettlelaw10.InternStays", spec := "internStays", unfollowed := true, recurses := true, plainKeys := false, apart := false }
def InternStaysSaid : Prop := internStaysRow.holds Try.pinned (OpenSpec.ofChange internStaysSpec)

/-- ITS FALSE NEIGHBOUR: 'it returns false'. Refute it at one input. -/
def internStaysWrong : ChangeSpec := { name := "internStays", fn := fun _ => fun
  | [d1, d2] => { results := [.lit (.bool false)], args := [d1, d2] }
  | _ => none }
def InternStaysWrongFalsely : Prop := internStaysRow.holds Try.pinned (OpenSpec.ofChange internStaysWrong)

/- THE SECOND FORM. 'bulk': how many values and letters a reading holds, each counted each time it is reached (what is shared counts as often as it is met; a slice's spare places count too). A statement '..UptoSaid' is the law's where the arguments, and the package variables that the reading takes, are together of bulk at most 1048576: NARROWER than '..Said'. Prove '..Said' where nothing that the law and all that it calls make is longer than what came in: it says more and counts as full. Else prove '..UptoSaid'. A law counts once. -/
mutual
def uptoBulk {H : Type} : DataW H → Nat
  | .lit (.string bytes) => bytes.length + 1
  | .lit _ => 1
  | .nil => 1
  | .ptr d => uptoBulk d + 1
  | .slice elems spare => uptoBulkAll elems + uptoBulkAll spare + 1
  | .agg parts => uptoBulkAll parts + 1
  | .iface _ d => uptoBulk d + 1
  | .map entries => uptoBulkEntries entries + 1
  | .held _ => 1
def uptoBulkAll {H : Type} : List (DataW H) → Nat
  | [] => 0
  | d :: r => uptoBulk d + uptoBulkAll r
def uptoBulkEntries {H : Type} : List (Lit × DataW H) → Nat
  | [] => 0
  | x :: r => uptoBulkEntry x + uptoBulkEntries r
def uptoBulkEntry {H : Type} : Lit × DataW H → Nat
  | (.string bytes, d) => bytes.length + uptoBulk d + 1
  | (_, d) => uptoBulk d + 1
 end
def uptoSmall : (H : Type) → List (DataW H) → Bool := fun _ ds => decide (uptoBulkAll ds ≤ 1048576)
def OpenSpec.upto (s : _root_.Go.ChangeSpec) : _root_.Go.OpenSpec := { _root_.Go.OpenSpec.ofChange s with cond := some uptoSmall }

/-- 'fettlelaw10.InternFull', WHERE WHAT IT READS IS OF BULK AT MOST 1048576: true; the input reads as it did. -/
def internFullUptoRow : OpenClaim := { program := "ytaedbjjjdafabaa", sum := "7561a660734152d6e786305fcbcbcdd9bec4052a38596431a245dfbab9aa2ab2", func := "fettle/fettlelaw10.InternFull", spec := "internFull", plainKeys := false, apart := false, narrowed := true }
def InternFullUptoSaid : Prop := internFullUptoRow.holds Try.pinned (OpenSpec.upto internFullSpec)

/-- 'fettlelaw10.InternNew', WHERE WHAT IT READS IS OF BULK AT MOST 1048576: true; the input reads as it did. -/
def internNewUptoRow : OpenClaim := { program := "ytaedbjjjdafabaa", sum := "7561a660734152d6e786305fcbcbcdd9bec4052a38596431a245dfbab9aa2ab2", func := "fettle/fettlelaw10.InternNew", spec := "internNew", unfollowed := true, recurses := true, plainKeys := false, apart := false, narrowed := true }
def InternNewUptoSaid : Prop := internNewUptoRow.holds Try.pinned (OpenSpec.upto internNewSpec)

/-- 'fettlelaw10.InternSame', WHERE WHAT IT READS IS OF BULK AT MOST 1048576: true; the input reads as it did. -/
def internSameUptoRow : OpenClaim := { program := "ytaedbjjjdafabaa", sum := "7561a660734152d6e786305fcbcbcdd9bec4052a38596431a245dfbab9aa2ab2", func := "fettle/fettlelaw10.InternSame", spec := "internSame", unfollowed := true, recurses := true, plainKeys := false, apart := false, narrowed := true }
def InternSameUptoSaid : Prop := internSameUptoRow.holds Try.pinned (OpenSpec.upto internSameSpec)

/-- 'fettlelaw10.InternStays', WHERE WHAT IT READS IS OF BULK AT MOST 1048576: true; the input reads as it did. -/
def internStaysUptoRow : OpenClaim := { program := "ytaedbjjjdafabaa", sum := "7561a660734152d6e786305fcbcbcdd9bec4052a38596431a245dfbab9aa2ab2", func := "fettle/fettlelaw10.InternStays", spec := "internStays", unfollowed := true, recurses := true, plainKeys := false, apart := false, narrowed := true }
def InternStaysUptoSaid : Prop := internStaysUptoRow.holds Try.pinned (OpenSpec.upto internStaysSpec)

end Rows
end Go.Proofs.Ytaedbjjjdafabaa
