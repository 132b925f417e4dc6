-- Written by a program (wip/tools/myprint.py over the kit's print): the functions that are proved by hand stand in YtiohajjdlcmhnaaHShowQuotes
import Derived.Test.YtiohajjdlcmhnaaProg
import Derived.Below
import Derived.Deep.Draws
import Derived.Deep.AppendLies
import Derived.Maps.AppendAt
import Derived.OwnWalk
import Derived.Laws.BytesArg
import Derived.Laws.MakeOwn
import Derived.Laws.OwnMore
import Derived.Deep.OwnRows
import Derived.Tactics
import Derived.Lib.ConvBytes
import Derived.Laws.Slices
import Derived.WalkKit
import Derived.KernelRfl
import Derived.RowKit3
import Derived.Deep.LoopGhost
import Derived.Deep.QuietTactic
import Derived.BigQuiet
import Derived.WideLaws
import Derived.Deep.DeepCutAuto
import Derived.Deep.CutBlock
import Derived.Deep.RegionHeld3
import Derived.Laws.Rows
import Derived.Lib.AppendStr
import Derived.ArgAppend
import Derived.Laws.IdiomCopy
import Derived.OrdersHeld
import Derived.Laws.BitsLemmas
import Derived.RowKit
import Derived.Test.YtiohajjdlcmhnaaWWords
import Derived.Test.YtiohajjdlcmhnaaWLast
import Derived.Test.YtiohajjdlcmhnaaWTab
import Derived.Test.YtiohajjdlcmhnaaWFour
import Derived.Test.YtiohajjdlcmhnaaWQPut
import Derived.Test.YtiohajjdlcmhnaaWApart
import Derived.Test.YtiohajjdlcmhnaaWArr
import Derived.Test.YtiohajjdlcmhnaaWZeros
import Derived.Test.YtiohajjdlcmhnaaWFoot
import Derived.Test.YtiohajjdlcmhnaaWKept
import Derived.Test.YtiohajjdlcmhnaaWShare
import Derived.Test.YtiohajjdlcmhnaaWN
import Derived.Test.YtiohajjdlcmhnaaWFootNe
import Derived.Test.YtiohajjdlcmhnaaWAt
import Derived.Test.YtiohajjdlcmhnaaWEqStruct
import Derived.Test.YtiohajjdlcmhnaaWRepsOne
import Derived.Test.YtiohajjdlcmhnaaWInv
import Derived.Test.YtiohajjdlcmhnaaWInvWords
import Derived.Test.YtiohajjdlcmhnaaWGuard
import Derived.Test.YtiohajjdlcmhnaaWNEv
import Derived.Test.YtiohajjdlcmhnaaWMore
import Derived.Test.YtiohajjdlcmhnaaHShowQuotes
namespace Go.Proofs.Ytiohajjdlcmhnaa.PShowQuotes
open Go.RowKit Go.Proofs.YtiohajjdlcmhnaaW.PrintWords Go.Proofs.YtiohajjdlcmhnaaW.PrintLast Go.Proofs.YtiohajjdlcmhnaaW.PrintMore
attribute [local go_sem] max2_int min2_int max_two min_two max_three min_three max_four min_four   -- for this text's walks alone
set_option linter.unusedVariables false
set_option linter.unusedSimpArgs false



def errW : Option Int → Value
  | none => .nilIface
  | some c => .iface 0 (.int .i64 c)
theorem errW_none : errW none = .nilIface := rfl
theorem errW_some (c : Int) : errW (some c) = .iface 0 (.int .i64 c) := rfl

theorem info5 : (Try.prog.info? 5).map (fun i => (i.zero, i.size, i.bytes)) = some (some (.int .u8 0), 1, 1) := by kernel_rfl
-- the values' own types

end Go.Proofs.Ytiohajjdlcmhnaa.PShowQuotes
