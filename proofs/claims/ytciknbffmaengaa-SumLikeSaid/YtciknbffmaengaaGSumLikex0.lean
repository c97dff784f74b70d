-- Printed by a program of this session over the kit's print, with given contracts; Lean checks it.
import Derived.Test.YtciknbffmaengaaProg
import Derived.Below
import Derived.Deep.Draws
import Derived.Deep.AppendLies
import Derived.Maps.AppendAt
import Derived.OwnWalk
import Derived.Laws.BytesArg
import Derived.Laws.MakeOwn
import Derived.Laws.OwnMore
import Derived.Deep.OwnRows
import Derived.Tactics
import Derived.Lib.ConvBytes
import Derived.Laws.Slices
import Derived.WalkKit
import Derived.KernelRfl
import Derived.RowKit3
import Derived.Deep.LoopGhost
import Derived.Deep.QuietTactic
import Derived.BigQuiet
import Derived.WideLaws
import Derived.Deep.DeepCutAuto
import Derived.Deep.CutBlock
import Derived.Deep.RegionHeld3
import Derived.Laws.Rows
import Derived.Lib.AppendStr
import Derived.ArgAppend
import Derived.Laws.IdiomCopy
import Derived.OrdersHeld
import Derived.Laws.BitsLemmas
import Derived.RowKit
import Derived.Test.YtciknbffmaengaaThen
import Derived.Test.YtciknbffmaengaaWWords
import Derived.Test.YtciknbffmaengaaWLast
import Derived.Test.YtciknbffmaengaaWTab
import Derived.Test.YtciknbffmaengaaWFour
import Derived.Test.YtciknbffmaengaaWQPut
import Derived.Test.YtciknbffmaengaaWApart
import Derived.Test.YtciknbffmaengaaWArr
import Derived.Test.YtciknbffmaengaaWZeros
import Derived.Test.YtciknbffmaengaaWFoot
import Derived.Test.YtciknbffmaengaaWKept
import Derived.Test.YtciknbffmaengaaWShare
import Derived.Test.YtciknbffmaengaaWN
import Derived.Test.YtciknbffmaengaaWFootNe
import Derived.Test.YtciknbffmaengaaWAt
import Derived.Test.YtciknbffmaengaaWEqStruct
import Derived.Test.YtciknbffmaengaaWRepsOne
import Derived.Test.YtciknbffmaengaaWInv
import Derived.Test.YtciknbffmaengaaWInvWords
import Derived.Test.YtciknbffmaengaaWGuard
import Derived.Test.YtciknbffmaengaaWNEv
import Derived.Test.YtciknbffmaengaaWMore
namespace Go.Proofs.Ytciknbffmaengaa.GSumLike
open Go.RowKit Go.Proofs.YtciknbffmaengaaW.PrintWords Go.Proofs.YtciknbffmaengaaW.PrintLast Go.Proofs.YtciknbffmaengaaW.PrintMore
attribute [local go_sem] max2_int min2_int max_two min_two max_three min_three max_four min_four   -- for this text's walks alone
set_option linter.unusedVariables false
set_option linter.unusedSimpArgs false



def errW : Option Int → Value
  | none => .nilIface
  | some c => .iface 0 (.int .i64 c)
theorem errW_none : errW none = .nilIface := rfl
theorem errW_some (c : Int) : errW (some c) = .iface 0 (.int .i64 c) := rfl

theorem info5 : (Try.prog.info? 5).map (fun i => (i.zero, i.size, i.bytes)) = some (some (.int .u8 0), 1, 1) := by kernel_rfl
-- the values' own types

end Go.Proofs.Ytciknbffmaengaa.GSumLike
