-- Laid by a program of this session (wip/pp/patch.py over the kit's print).
import Derived.Test.YtenlbbookiopiaaProg
import Derived.Below
import Derived.Deep.Draws
import Derived.Deep.AppendLies
import Derived.Maps.AppendAt
import Derived.OwnWalk
import Derived.Laws.BytesArg
import Derived.Laws.MakeOwn
import Derived.Laws.OwnMore
import Derived.Deep.OwnRows
import Derived.Tactics
import Derived.Lib.ConvBytes
import Derived.Laws.Slices
import Derived.WalkKit
import Derived.KernelRfl
import Derived.RowKit3
import Derived.Deep.LoopGhost
import Derived.Deep.QuietTactic
import Derived.BigQuiet
import Derived.WideLaws
import Derived.Deep.DeepCutAuto
import Derived.Deep.CutBlock
import Derived.Deep.RegionHeld3
import Derived.Laws.Rows
import Derived.Lib.AppendStr
import Derived.ArgAppend
import Derived.Laws.IdiomCopy
import Derived.OrdersHeld
import Derived.Laws.BitsLemmas
import Derived.RowKit
import Derived.Lib.IfaceEq
import Derived.Lib.IfaceNeq
import Derived.LaidEql
import Derived.Test.YtenlbbookiopiaaWWords
import Derived.Test.YtenlbbookiopiaaWLast
import Derived.Test.YtenlbbookiopiaaWTab
import Derived.Test.YtenlbbookiopiaaWFour
import Derived.Test.YtenlbbookiopiaaWQPut
import Derived.Test.YtenlbbookiopiaaWApart
import Derived.Test.YtenlbbookiopiaaWArr
import Derived.Test.YtenlbbookiopiaaWZeros
import Derived.Test.YtenlbbookiopiaaWFoot
import Derived.Test.YtenlbbookiopiaaWKept
import Derived.Test.YtenlbbookiopiaaWShare
import Derived.Test.YtenlbbookiopiaaWN
import Derived.Test.YtenlbbookiopiaaWFootNe
import Derived.Test.YtenlbbookiopiaaWAt
import Derived.Test.YtenlbbookiopiaaWEqStruct
import Derived.Test.YtenlbbookiopiaaWRepsOne
import Derived.Test.YtenlbbookiopiaaWInv
import Derived.Test.YtenlbbookiopiaaWInvWords
import Derived.Test.YtenlbbookiopiaaWGuard
import Derived.Test.YtenlbbookiopiaaWNEv
import Derived.Test.YtenlbbookiopiaaWMore
namespace Go.Proofs.Ytenlbbookiopiaa.PArithEvals
open Go.RowKit Go.Proofs.YtenlbbookiopiaaW.PrintWords Go.Proofs.YtenlbbookiopiaaW.PrintLast Go.Proofs.YtenlbbookiopiaaW.PrintMore
attribute [local go_sem] max2_int min2_int max_two min_two max_three min_three max_four min_four   -- for this text's walks alone
set_option linter.unusedVariables false
set_option linter.unusedSimpArgs false



def errW : Option Int → Value
  | none => .nilIface
  | some c => .iface 29 (.int .i64 c)
theorem errW_none : errW none = .nilIface := rfl
theorem errW_some (c : Int) : errW (some c) = .iface 29 (.int .i64 c) := rfl

theorem info2 : (Try.prog.info? 2).map (fun i => (i.zero, i.size, i.bytes)) = some (some (.int .i64 0), 1, 8) := by kernel_rfl
-- the values' own types

theorem eqErr25 {w : World} (a b : Int) : (Go.binOp .eql 25 (.iface 29 (.int .i64 a)) (.iface 29 (.int .i64 b))).run Try.prog w = .ok (.bool (a == b)) w := Go.Lib.run_eql_iface_int w a b Try.underlying25 (by kernel_rfl) Try.underlying29
theorem neErr25 {w : World} (a b : Int) : (Go.binOp .neq 25 (.iface 29 (.int .i64 a)) (.iface 29 (.int .i64 b))).run Try.prog w = .ok (.bool (!(a == b))) w := Go.Lib.run_neq_iface_int w a b Try.underlying25 (by kernel_rfl) Try.underlying29
theorem nilErr25 {w : World} (v : Value) : (Go.binOp .eql 25 .nilIface (.iface 29 v)).run Try.prog w = .ok (.bool false) w := Go.run_eql_iface_nil_left w 29 v Try.underlying25
end Go.Proofs.Ytenlbbookiopiaa.PArithEvals
