-- Printed by a program of this session over the kit's print, with given contracts; Lean checks it.
import Derived.Test.YtbojnjomhjajaaaProg
import Derived.Below
import Derived.Deep.Draws
import Derived.Deep.AppendLies
import Derived.Maps.AppendAt
import Derived.OwnWalk
import Derived.Laws.BytesArg
import Derived.Laws.MakeOwn
import Derived.Laws.OwnMore
import Derived.Deep.OwnRows
import Derived.Tactics
import Derived.Lib.ConvBytes
import Derived.Laws.Slices
import Derived.WalkKit
import Derived.KernelRfl
import Derived.RowKit3
import Derived.Deep.LoopGhost
import Derived.Deep.QuietTactic
import Derived.BigQuiet
import Derived.WideLaws
import Derived.Deep.DeepCutAuto
import Derived.Deep.CutBlock
import Derived.Deep.RegionHeld3
import Derived.Laws.Rows
import Derived.Lib.AppendStr
import Derived.ArgAppend
import Derived.Laws.IdiomCopy
import Derived.OrdersHeld
import Derived.Laws.BitsLemmas
import Derived.RowKit
import Derived.Test.YtbojnjomhjajaaaWWords
import Derived.Test.YtbojnjomhjajaaaWLast
import Derived.Test.YtbojnjomhjajaaaWTab
import Derived.Test.YtbojnjomhjajaaaWFour
import Derived.Test.YtbojnjomhjajaaaWQPut
import Derived.Test.YtbojnjomhjajaaaWApart
import Derived.Test.YtbojnjomhjajaaaWArr
import Derived.Test.YtbojnjomhjajaaaWZeros
import Derived.Test.YtbojnjomhjajaaaWFoot
import Derived.Test.YtbojnjomhjajaaaWKept
import Derived.Test.YtbojnjomhjajaaaWShare
import Derived.Test.YtbojnjomhjajaaaWN
import Derived.Test.YtbojnjomhjajaaaWFootNe
import Derived.Test.YtbojnjomhjajaaaWAt
import Derived.Test.YtbojnjomhjajaaaWEqStruct
import Derived.Test.YtbojnjomhjajaaaWRepsOne
import Derived.Test.YtbojnjomhjajaaaWInv
import Derived.Test.YtbojnjomhjajaaaWInvWords
import Derived.Test.YtbojnjomhjajaaaWGuard
import Derived.Test.YtbojnjomhjajaaaWNEv
import Derived.Test.YtbojnjomhjajaaaWMore
namespace Go.Proofs.Ytbojnjomhjajaaa.BSchedRuns
open Go.RowKit Go.Proofs.YtbojnjomhjajaaaW.PrintWords Go.Proofs.YtbojnjomhjajaaaW.PrintLast Go.Proofs.YtbojnjomhjajaaaW.PrintMore
attribute [local go_sem] max2_int min2_int max_two min_two max_three min_three max_four min_four   -- for this text's walks alone
set_option linter.unusedVariables false
set_option linter.unusedSimpArgs false



def errW : Option Int → Value
  | none => .nilIface
  | some c => .iface 0 (.int .i64 c)
theorem errW_none : errW none = .nilIface := rfl
theorem errW_some (c : Int) : errW (some c) = .iface 0 (.int .i64 c) := rfl

theorem info3 : (Try.prog.info? 3).map (fun i => (i.zero, i.size, i.bytes)) = some (some (.int .i64 0), 1, 8) := by kernel_rfl
-- the values' own types

end Go.Proofs.Ytbojnjomhjajaaa.BSchedRuns
