-- PRINTED BY print.sh 35421559b90ae4d0a3588c463048766b98c2df88dd9212a6774a882060cdf62d: not written by this session
import Derived.Test.YtnkaipphmkjbnaaProg
import Derived.Below
import Derived.Deep.Draws
import Derived.Deep.AppendLies
import Derived.Maps.AppendAt
import Derived.OwnWalk
import Derived.Laws.BytesArg
import Derived.Laws.MakeOwn
import Derived.Laws.OwnMore
import Derived.Deep.OwnRows
import Derived.Tactics
import Derived.Lib.ConvBytes
import Derived.Laws.Slices
import Derived.WalkKit
import Derived.KernelRfl
import Derived.RowKit3
import Derived.Deep.LoopGhost
import Derived.Deep.QuietTactic
import Derived.BigQuiet
import Derived.WideLaws
import Derived.Deep.DeepCutAuto
import Derived.Deep.CutBlock
import Derived.Deep.RegionHeld3
import Derived.Laws.Rows
import Derived.Lib.AppendStr
import Derived.ArgAppend
import Derived.Laws.IdiomCopy
import Derived.OrdersHeld
import Derived.Laws.BitsLemmas
import Derived.RowKit
import Derived.Test.YtnkaipphmkjbnaaWWords
import Derived.Test.YtnkaipphmkjbnaaWLast
import Derived.Test.YtnkaipphmkjbnaaWTab
import Derived.Test.YtnkaipphmkjbnaaWFour
import Derived.Test.YtnkaipphmkjbnaaWQPut
import Derived.Test.YtnkaipphmkjbnaaWApart
import Derived.Test.YtnkaipphmkjbnaaWArr
import Derived.Test.YtnkaipphmkjbnaaWZeros
import Derived.Test.YtnkaipphmkjbnaaWFoot
import Derived.Test.YtnkaipphmkjbnaaWKept
import Derived.Test.YtnkaipphmkjbnaaWShare
import Derived.Test.YtnkaipphmkjbnaaWN
import Derived.Test.YtnkaipphmkjbnaaWFootNe
import Derived.Test.YtnkaipphmkjbnaaWAt
import Derived.Test.YtnkaipphmkjbnaaWEqStruct
import Derived.Test.YtnkaipphmkjbnaaWRepsOne
import Derived.Test.YtnkaipphmkjbnaaWInv
import Derived.Test.YtnkaipphmkjbnaaWInvWords
import Derived.Test.YtnkaipphmkjbnaaWGuard
import Derived.Test.YtnkaipphmkjbnaaWNEv
import Derived.Test.YtnkaipphmkjbnaaWMore
namespace Go.Proofs.Ytnkaipphmkjbnaa.PApiErrors
open Go.RowKit Go.Proofs.YtnkaipphmkjbnaaW.PrintWords Go.Proofs.YtnkaipphmkjbnaaW.PrintLast Go.Proofs.YtnkaipphmkjbnaaW.PrintMore
attribute [local go_sem] max2_int min2_int max_two min_two max_three min_three max_four min_four   -- for this text's walks alone
set_option linter.unusedVariables false
set_option linter.unusedSimpArgs false



def errW : Option Int → Value
  | none => .nilIface
  | some c => .iface 0 (.int .i64 c)
theorem errW_none : errW none = .nilIface := rfl
theorem errW_some (c : Int) : errW (some c) = .iface 0 (.int .i64 c) := rfl

theorem info3 : (Try.prog.info? 3).map (fun i => (i.zero, i.size, i.bytes)) = some (some (.int .i64 0), 1, 8) := by kernel_rfl
theorem info22 : (Try.prog.info? 22).map (fun i => (i.zero, i.size, i.bytes)) = some (some (.int .i64 0), 1, 8) := by kernel_rfl
-- the values' own types

end Go.Proofs.Ytnkaipphmkjbnaa.PApiErrors
