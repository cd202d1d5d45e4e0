/-
  No cell of these rows narrows 'for every input' (looked for: loops, veiled, ifaces, maps, wideKeys, modest, calm, conditions, laid).
  DERIVED. THE GIVEN ROWS OF THIS SEAT. 8 by the template 'for every input the law returns true; each argument reads behind the call as it read before'; 0 by the template 'total and deterministic' (their statements: YtpionncanaamgaaTotals.lean).
  GIVEN WITH THE SEED: the statements are not yours to turn. If you find one false, say at which input.
  Laid BY PROGRAM, IN A SANDBOX (cutbox-rows.mjs): the forced cells as the released guide's own fill.sh prints them over the translation 74e2b5c09a47eba2… (all of the seat's roots in one cut). By AI agents, Wed Nov 11 2026. No macro, syntax, notation, axiom, sorry.
-/
import Derived.Test.YtpionncanaamgaaChecked
import GoSem.Claim
import GoSem.ClaimJoined
import GoSem.ClaimMapViews
import Derived.JoinedTies
import Derived.KernelRfl
namespace Go.Proofs.Ytpionncanaamgaa
/- THE CELL 'sum', in the pinned program and in every row, IS THE sha256 OF THE DUMP (.gsa) THAT YtpionncanaamgaaProg.lean LOADS. Nothing in Lean hashes anything: it is a label: what it is worth is what the hold of that sum in a sandbox is worth. -/
noncomputable def Try.pinned : Pinned := { name := "ytpionncanaamgaa", sum := "74e2b5c09a47eba270d61284850a991674853b8137c656c9b814563833f6cbf7", checked := Try.checked }
namespace Rows
def none {H : Type} : Left H := { results := [], args := [] }

/-- 'fettlelaw06.DomFrontiers': WHATEVER THE INPUT: true; the input reads as it did. -/
def domFrontiersSpec : ChangeSpec := { name := "domFrontiers", fn := fun _ => fun
  | [d] => { results := [.lit (.bool true)], args := [d] }
  | _ => none }
def domFrontiersRow : OpenClaim := { program := "ytpionncanaamgaa", sum := "74e2b5c09a47eba270d61284850a991674853b8137c656c9b814563833f6cbf7", func := "fettle/fettlelaw06.DomFrontiers", spec := "domFrontiers", unfollowed := true, recurses := true, apart := false }
def DomFrontiersSaid : Prop := domFrontiersRow.holds Try.pinned (OpenSpec.ofChange domFrontiersSpec)

/-- ITS FALSE NEIGHBOUR: 'it returns false'. Refute it at one input. -/
def domFrontiersWrong : ChangeSpec := { name := "domFrontiers", fn := fun _ => fun
  | [d] => { results := [.lit (.bool false)], args := [d] }
  | _ => none }
def DomFrontiersWrongFalsely : Prop := domFrontiersRow.holds Try.pinned (OpenSpec.ofChange domFrontiersWrong)

/-- 'fettlelaw06.DomOrder': WHATEVER THE INPUT: true; the input reads as it did. -/
def domOrderSpec : ChangeSpec := { name := "domOrder", fn := fun _ => fun
  | [d] => { results := [.lit (.bool true)], args := [d] }
  | _ => none }
def domOrderRow : OpenClaim := { program := "ytpionncanaamgaa", sum := "74e2b5c09a47eba270d61284850a991674853b8137c656c9b814563833f6cbf7", func := "fettle/fettlelaw06.DomOrder", spec := "domOrder", unfollowed := true, recurses := true, apart := false }
def DomOrderSaid : Prop := domOrderRow.holds Try.pinned (OpenSpec.ofChange domOrderSpec)

/-- ITS FALSE NEIGHBOUR: 'it returns false'. Refute it at one input. -/
def domOrderWrong : ChangeSpec := { name := "domOrder", fn := fun _ => fun
  | [d] => { results := [.lit (.bool false)], args := [d] }
  | _ => none }
def DomOrderWrongFalsely : Prop := domOrderRow.holds Try.pinned (OpenSpec.ofChange domOrderWrong)

/-- 'fettlelaw06.DomPaths': WHATEVER THE INPUT: true; the input reads as it did. -/
def domPathsSpec : ChangeSpec := { name := "domPaths", fn := fun _ => fun
  | [d1, d2] => { results := [.lit (.bool true)], args := [d1, d2] }
  | _ => none }
def domPathsRow : OpenClaim := { program := "ytpionncanaamgaa", sum := "74e2b5c09a47eba270d61284850a991674853b8137c656c9b814563833f6cbf7", func := "fettle/fettlelaw06.DomPaths", spec := "domPaths", unfollowed := true, recurses := true, apart := false }
def DomPathsSaid : Prop := domPathsRow.holds Try.pinned (OpenSpec.ofChange domPathsSpec)

/-- ITS FALSE NEIGHBOUR: 'it returns false'. Refute it at one input. -/
def domPathsWrong : ChangeSpec := { name := "domPaths", fn := fun _ => fun
  | [d1, d2] => { results := [.lit (.bool false)], args := [d1, d2] }
  | _ => none }
def DomPathsWrongFalsely : Prop := domPathsRow.holds Try.pinned (OpenSpec.ofChange domPathsWrong)

/-- 'fettlelaw06.DomNearest': WHATEVER THE INPUT: true; the input reads as it did. -/
def domNearestSpec : ChangeSpec := { name := "domNearest", fn := fun _ => fun
  | [d] => { results := [.lit (.bool true)], args := [d] }
  | _ => none }
def domNearestRow : OpenClaim := { program := "ytpionncanaamgaa", sum := "74e2b5c09a47eba270d61284850a991674853b8137c656c9b814563833f6cbf7", func := "fettle/fettlelaw06.DomNearest", spec := "domNearest", unfollowed := true, recurses := true, apart := false }
def DomNearestSaid : Prop := domNearestRow.holds Try.pinned (OpenSpec.ofChange domNearestSpec)

/-- ITS FALSE NEIGHBOUR: 'it returns false'. Refute it at one input. -/
def domNearestWrong : ChangeSpec := { name := "domNearest", fn := fun _ => fun
  | [d] => { results := [.lit (.bool false)], args := [d] }
  | _ => none }
def DomNearestWrongFalsely : Prop := domNearestRow.holds Try.pinned (OpenSpec.ofChange domNearestWrong)

/-- 'fettlelaw06.DomStays': WHATEVER THE INPUT: true; the input reads as it did. -/
def domStaysSpec : ChangeSpec := { name := "domStays", fn := fun _ => fun
  | [d] => { results := [.lit (.bool true)], args := [d] }
  | _ => none }
def domStaysRow : OpenClaim := { program := "ytpionncanaamgaa", sum := "74e2b5c09a47eba270d61284850a991674853b8137c656c9b814563833f6cbf7", func := "fettle/fettlelaw06.DomStays", spec := "domStays", unfollowed := true, recurses := true, apart := false }
def DomStaysSaid : Prop := domStaysRow.holds Try.pinned (OpenSpec.ofChange domStaysSpec)

/-- ITS FALSE NEIGHBOUR: 'it returns false'. Refute it at one input. -/
def domStaysWrong : ChangeSpec := { name := "domStays", fn := fun _ => fun
  | [d] => { results := [.lit (.bool false)], args := [d] }
  | _ => none }
def DomStaysWrongFalsely : Prop := domStaysRow.holds Try.pinned (OpenSpec.ofChange domStaysWrong)

/-- 'fettlelaw07.LoopsLie': WHATEVER THE INPUT: true; the input reads as it did. -/
def loopsLieSpec : ChangeSpec := { name := "loopsLie", fn := fun _ => fun
  | [d] => { results := [.lit (.bool true)], args := [d] }
  | _ => none }
def loopsLieRow : OpenClaim := { program := "ytpionncanaamgaa", sum := "74e2b5c09a47eba270d61284850a991674853b8137c656c9b814563833f6cbf7", func := "fettle/fettlelaw07.LoopsLie", spec := "loopsLie", unfollowed := true, recurses := true, apart := false }
def LoopsLieSaid : Prop := loopsLieRow.holds Try.pinned (OpenSpec.ofChange loopsLieSpec)

/-- ITS FALSE NEIGHBOUR: 'it returns false'. Refute it at one input. -/
def loopsLieWrong : ChangeSpec := { name := "loopsLie", fn := fun _ => fun
  | [d] => { results := [.lit (.bool false)], args := [d] }
  | _ => none }
def LoopsLieWrongFalsely : Prop := loopsLieRow.holds Try.pinned (OpenSpec.ofChange loopsLieWrong)

/-- 'fettlelaw07.LoopsPaths': WHATEVER THE INPUT: true; the input reads as it did. -/
def loopsPathsSpec : ChangeSpec := { name := "loopsPaths", fn := fun _ => fun
  | [d1, d2] => { results := [.lit (.bool true)], args := [d1, d2] }
  | _ => none }
def loopsPathsRow : OpenClaim := { program := "ytpionncanaamgaa", sum := "74e2b5c09a47eba270d61284850a991674853b8137c656c9b814563833f6cbf7", func := "fettle/fettlelaw07.LoopsPaths", spec := "loopsPaths", unfollowed := true, recurses := true, apart := false }
def LoopsPathsSaid : Prop := loopsPathsRow.holds Try.pinned (OpenSpec.ofChange loopsPathsSpec)

/-- ITS FALSE NEIGHBOUR: 'it returns false'. Refute it at one input. -/
def loopsPathsWrong : ChangeSpec := { name := "loopsPaths", fn := fun _ => fun
  | [d1, d2] => { results := [.lit (.bool false)], args := [d1, d2] }
  | _ => none }
def LoopsPathsWrongFalsely : Prop := loopsPathsRow.holds Try.pinned (OpenSpec.ofChange loopsPathsWrong)

/-- 'fettlelaw07.LoopsStays': WHATEVER THE INPUT: true; the input reads as it did. -/
def loopsStaysSpec : ChangeSpec := { name := "loopsStays", fn := fun _ => fun
  | [d] => { results := [.lit (.bool true)], args := [d] }
  | _ => none }
def loopsStaysRow : OpenClaim := { program := "ytpionncanaamgaa", sum := "74e2b5c09a47eba270d61284850a991674853b8137c656c9b814563833f6cbf7", func := "fettle/fettlelaw07.LoopsStays", spec := "loopsStays", unfollowed := true, recurses := true, apart := false }
def LoopsStaysSaid : Prop := loopsStaysRow.holds Try.pinned (OpenSpec.ofChange loopsStaysSpec)

/-- ITS FALSE NEIGHBOUR: 'it returns false'. Refute it at one input. -/
def loopsStaysWrong : ChangeSpec := { name := "loopsStays", fn := fun _ => fun
  | [d] => { results := [.lit (.bool false)], args := [d] }
  | _ => none }
def LoopsStaysWrongFalsely : Prop := loopsStaysRow.holds Try.pinned (OpenSpec.ofChange loopsStaysWrong)

/- THE SECOND FORM. 'bulk': how many values and letters a reading holds, each counted each time it is reached (what is shared counts as often as it is met; a slice's spare places count too). A statement '..UptoSaid' is the law's where the arguments, and the package variables that the reading takes, are together of bulk at most 1048576: NARROWER than '..Said'. Prove '..Said' where nothing that the law and all that it calls make is longer than what came in: it says more and counts as full. Else prove '..UptoSaid'. A law counts once. -/
mutual
def uptoBulk {H : Type} : DataW H → Nat
  | .lit (.string bytes) => bytes.length + 1
  | .lit _ => 1
  | .nil => 1
  | .ptr d => uptoBulk d + 1
  | .slice elems spare => uptoBulkAll elems + uptoBulkAll spare + 1
  | .agg parts => uptoBulkAll parts + 1
  | .iface _ d => uptoBulk d + 1
  | .map entries => uptoBulkEntries entries + 1
  | .held _ => 1
def uptoBulkAll {H : Type} : List (DataW H) → Nat
  | [] => 0
  | d :: r => uptoBulk d + uptoBulkAll r
def uptoBulkEntries {H : Type} : List (Lit × DataW H) → Nat
  | [] => 0
  | x :: r => uptoBulkEntry x + uptoBulkEntries r
def uptoBulkEntry {H : Type} : Lit × DataW H → Nat
  | (.string bytes, d) => bytes.length + uptoBulk d + 1
  | (_, d) => uptoBulk d + 1
 end
def uptoSmall : (H : Type) → List (DataW H) → Bool := fun _ ds => decide (uptoBulkAll ds ≤ 1048576)
def OpenSpec.upto (s : _root_.Go.ChangeSpec) : _root_.Go.OpenSpec := { _root_.Go.OpenSpec.ofChange s with cond := some uptoSmall }

/-- 'fettlelaw06.DomFrontiers', WHERE WHAT IT READS IS OF BULK AT MOST 1048576: true; the input reads as it did. -/
def domFrontiersUptoRow : OpenClaim := { program := "ytpionncanaamgaa", sum := "74e2b5c09a47eba270d61284850a991674853b8137c656c9b814563833f6cbf7", func := "fettle/fettlelaw06.DomFrontiers", spec := "domFrontiers", unfollowed := true, recurses := true, apart := false, narrowed := true }
def DomFrontiersUptoSaid : Prop := domFrontiersUptoRow.holds Try.pinned (OpenSpec.upto domFrontiersSpec)

/-- 'fettlelaw06.DomOrder', WHERE WHAT IT READS IS OF BULK AT MOST 1048576: true; the input reads as it did. -/
def domOrderUptoRow : OpenClaim := { program := "ytpionncanaamgaa", sum := "74e2b5c09a47eba270d61284850a991674853b8137c656c9b814563833f6cbf7", func := "fettle/fettlelaw06.DomOrder", spec := "domOrder", unfollowed := true, recurses := true, apart := false, narrowed := true }
def DomOrderUptoSaid : Prop := domOrderUptoRow.holds Try.pinned (OpenSpec.upto domOrderSpec)

/-- 'fettlelaw06.DomPaths', WHERE WHAT IT READS IS OF BULK AT MOST 1048576: true; the input reads as it did. -/
def domPathsUptoRow : OpenClaim := { program := "ytpionncanaamgaa", sum := "74e2b5c09a47eba270d61284850a991674853b8137c656c9b814563833f6cbf7", func := "fettle/fettlelaw06.DomPaths", spec := "domPaths", unfollowed := true, recurses := true, apart := false, narrowed := true }
def DomPathsUptoSaid : Prop := domPathsUptoRow.holds Try.pinned (OpenSpec.upto domPathsSpec)

/-- 'fettlelaw06.DomNearest', WHERE WHAT IT READS IS OF BULK AT MOST 1048576: true; the input reads as it did. -/
def domNearestUptoRow : OpenClaim := { program := "ytpionncanaamgaa", sum := "74e2b5c09a47eba270d61284850a991674853b8137c656c9b814563833f6cbf7", func := "fettle/fettlelaw06.DomNearest", spec := "domNearest", unfollowed := true, recurses := true, apart := false, narrowed := true }
def DomNearestUptoSaid : Prop := domNearestUptoRow.holds Try.pinned (OpenSpec.upto domNearestSpec)

/-- 'fettlelaw06.DomStays', WHERE WHAT IT READS IS OF BULK AT MOST 1048576: true; the input reads as it did. -/
def domStaysUptoRow : OpenClaim := { program := "ytpionncanaamgaa", sum := "74e2b5c09a47eba270d61284850a991674853b8137c656c9b814563833f6cbf7", func := "fettle/fettlelaw06.DomStays", spec := "domStays", unfollowed := true, recurses := true, apart := false, narrowed := true }
def DomStaysUptoSaid : Prop := domStaysUptoRow.holds Try.pinned (OpenSpec.upto domStaysSpec)

/-- 'fettlelaw07.LoopsLie', WHERE WHAT IT READS IS OF BULK AT MOST 1048576: true; the input reads as it did. -/
def loopsLieUptoRow : OpenClaim := { program := "ytpionncanaamgaa", sum := "74e2b5c09a47eba270d61284850a991674853b8137c656c9b814563833f6cbf7", func := "fettle/fettlelaw07.LoopsLie", spec := "loopsLie", unfollowed := true, recurses := true, apart := false, narrowed := true }
def LoopsLieUptoSaid : Prop := loopsLieUptoRow.holds Try.pinned (OpenSpec.upto loopsLieSpec)

/-- 'fettlelaw07.LoopsPaths', WHERE WHAT IT READS IS OF BULK AT MOST 1048576: true; the input reads as it did. -/
def loopsPathsUptoRow : OpenClaim := { program := "ytpionncanaamgaa", sum := "74e2b5c09a47eba270d61284850a991674853b8137c656c9b814563833f6cbf7", func := "fettle/fettlelaw07.LoopsPaths", spec := "loopsPaths", unfollowed := true, recurses := true, apart := false, narrowed := true }
def LoopsPathsUptoSaid : Prop := loopsPathsUptoRow.holds Try.pinned (OpenSpec.upto loopsPathsSpec)

/-- 'fettlelaw07.LoopsStays', WHERE WHAT IT READS IS OF BULK AT MOST 1048576: true; the input reads as it did. -/
def loopsStaysUptoRow : OpenClaim := { program := "ytpionncanaamgaa", sum := "74e2b5c09a47eba270d61284850a991674853b8137c656c9b814563833f6cbf7", func := "fettle/fettlelaw07.LoopsStays", spec := "loopsStays", unfollowed := true, recurses := true, apart := false, narrowed := true }
def LoopsStaysUptoSaid : Prop := loopsStaysUptoRow.holds Try.pinned (OpenSpec.upto loopsStaysSpec)

end Rows
end Go.Proofs.Ytpionncanaamgaa
