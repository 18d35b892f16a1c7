-- Printed by a program of this session, a changed copy of the print
import Derived.Test.YtidjnpfpbbffjaaProg
import Derived.Below
import Derived.Deep.Draws
import Derived.Deep.AppendLies
import Derived.Maps.AppendAt
import Derived.OwnWalk
import Derived.Laws.BytesArg
import Derived.Laws.MakeOwn
import Derived.Laws.OwnMore
import Derived.Deep.OwnRows
import Derived.Tactics
import Derived.Lib.ConvBytes
import Derived.Laws.Slices
import Derived.WalkKit
import Derived.KernelRfl
import Derived.RowKit3
import Derived.Deep.LoopGhost
import Derived.Deep.QuietTactic
import Derived.BigQuiet
import Derived.WideLaws
import Derived.Deep.DeepCutAuto
import Derived.Deep.CutBlock
import Derived.Deep.RegionHeld3
import Derived.Laws.Rows
import Derived.Lib.AppendStr
import Derived.ArgAppend
import Derived.Laws.IdiomCopy
import Derived.OrdersHeld
import Derived.Laws.BitsLemmas
import Derived.RowKit
import Derived.Test.YtidjnpfpbbffjaaWWords
import Derived.Test.YtidjnpfpbbffjaaWLast
import Derived.Test.YtidjnpfpbbffjaaWTab
import Derived.Test.YtidjnpfpbbffjaaWFour
import Derived.Test.YtidjnpfpbbffjaaWQPut
import Derived.Test.YtidjnpfpbbffjaaWApart
import Derived.Test.YtidjnpfpbbffjaaWArr
import Derived.Test.YtidjnpfpbbffjaaWZeros
import Derived.Test.YtidjnpfpbbffjaaWFoot
import Derived.Test.YtidjnpfpbbffjaaWKept
import Derived.Test.YtidjnpfpbbffjaaWShare
import Derived.Test.YtidjnpfpbbffjaaWN
import Derived.Test.YtidjnpfpbbffjaaWFootNe
import Derived.Test.YtidjnpfpbbffjaaWAt
import Derived.Test.YtidjnpfpbbffjaaWEqStruct
import Derived.Test.YtidjnpfpbbffjaaWRepsOne
import Derived.Test.YtidjnpfpbbffjaaWInv
import Derived.Test.YtidjnpfpbbffjaaWInvWords
import Derived.Test.YtidjnpfpbbffjaaWGuard
import Derived.Test.YtidjnpfpbbffjaaWNEv
import Derived.Test.YtidjnpfpbbffjaaWMore
namespace Go.Proofs.Ytidjnpfpbbffjaa.PWindowOnce
open Go.RowKit Go.Proofs.YtidjnpfpbbffjaaW.PrintWords Go.Proofs.YtidjnpfpbbffjaaW.PrintLast Go.Proofs.YtidjnpfpbbffjaaW.PrintMore
attribute [local go_sem] max2_int min2_int max_two min_two max_three min_three max_four min_four   -- for this text's walks alone
set_option linter.unusedVariables false
set_option linter.unusedSimpArgs false



def errW : Option Int → Value
  | none => .nilIface
  | some c => .iface 0 (.int .i64 c)
theorem errW_none : errW none = .nilIface := rfl
theorem errW_some (c : Int) : errW (some c) = .iface 0 (.int .i64 c) := rfl

-- the values' own types

end Go.Proofs.Ytidjnpfpbbffjaa.PWindowOnce
