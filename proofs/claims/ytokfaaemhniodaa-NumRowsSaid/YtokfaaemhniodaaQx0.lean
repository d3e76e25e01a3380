/- Printed by a program of this session (wip/tools/op.py, over the kit's print program): Go functions as plain Lean functions, each with a proof that the call answers so. Conditions: each theorem's own. -/
import Derived.Test.YtokfaaemhniodaaProg
import Derived.Below
import Derived.Deep.Draws
import Derived.Deep.AppendLies
import Derived.Maps.AppendAt
import Derived.OwnWalk
import Derived.Laws.BytesArg
import Derived.Laws.MakeOwn
import Derived.Laws.OwnMore
import Derived.Deep.OwnRows
import Derived.Tactics
import Derived.Lib.ConvBytes
import Derived.Laws.Slices
import Derived.WalkKit
import Derived.KernelRfl
import Derived.RowKit3
import Derived.Deep.LoopGhost
import Derived.Deep.QuietTactic
import Derived.BigQuiet
import Derived.WideLaws
import Derived.Deep.DeepCutAuto
import Derived.Deep.CutBlock
import Derived.Deep.RegionHeld3
import Derived.Laws.Rows
import Derived.Lib.AppendStr
import Derived.ArgAppend
import Derived.Laws.IdiomCopy
import Derived.OrdersHeld
import Derived.Laws.BitsLemmas
import Derived.RowKit
import Derived.Test.YtokfaaemhniodaaHLabel
import Derived.WalkMore
import Derived.Test.YtokfaaemhniodaaWWords
import Derived.Test.YtokfaaemhniodaaWLast
import Derived.Test.YtokfaaemhniodaaWTab
import Derived.Test.YtokfaaemhniodaaWFour
import Derived.Test.YtokfaaemhniodaaWQPut
import Derived.Test.YtokfaaemhniodaaWApart
import Derived.Test.YtokfaaemhniodaaWArr
import Derived.Test.YtokfaaemhniodaaWZeros
import Derived.Test.YtokfaaemhniodaaWFoot
import Derived.Test.YtokfaaemhniodaaWKept
import Derived.Test.YtokfaaemhniodaaWShare
import Derived.Test.YtokfaaemhniodaaWN
import Derived.Test.YtokfaaemhniodaaWFootNe
import Derived.Test.YtokfaaemhniodaaWAt
import Derived.Test.YtokfaaemhniodaaWEqStruct
import Derived.Test.YtokfaaemhniodaaWRepsOne
import Derived.Test.YtokfaaemhniodaaWInv
import Derived.Test.YtokfaaemhniodaaWInvWords
import Derived.Test.YtokfaaemhniodaaWGuard
import Derived.Test.YtokfaaemhniodaaWNEv
import Derived.Test.YtokfaaemhniodaaWMore
namespace Go.Proofs.Ytokfaaemhniodaa.Q
open Go.Proofs.YtokfaaemhniodaaH
open Go.RowKit Go.Proofs.YtokfaaemhniodaaW.PrintWords Go.Proofs.YtokfaaemhniodaaW.PrintLast Go.Proofs.YtokfaaemhniodaaW.PrintMore
attribute [local go_sem] max2_int min2_int max_two min_two max_three min_three max_four min_four   -- for this text's walks alone
set_option linter.unusedVariables false
set_option linter.unusedSimpArgs false



def errW : Option Int → Value
  | none => .nilIface
  | some c => .iface 0 (.int .i64 c)
theorem errW_none : errW none = .nilIface := rfl
theorem errW_some (c : Int) : errW (some c) = .iface 0 (.int .i64 c) := rfl

theorem info3 : (Try.prog.info? 3).map (fun i => (i.zero, i.size, i.bytes)) = some (some (.int .i64 0), 1, 8) := by kernel_rfl
theorem info5 : (Try.prog.info? 5).map (fun i => (i.zero, i.size, i.bytes)) = some (some (.int .u8 0), 1, 1) := by kernel_rfl
-- the values' own types

end Go.Proofs.Ytokfaaemhniodaa.Q
