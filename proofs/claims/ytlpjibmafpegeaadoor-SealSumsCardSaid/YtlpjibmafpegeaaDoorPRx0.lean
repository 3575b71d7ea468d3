-- Written by a program of this repo (wip/pp.py) out of the translation, for this claim.
import Derived.Test.YtlpjibmafpegeaaDoorProg
import Derived.Below
import Derived.Deep.Draws
import Derived.Deep.AppendLies
import Derived.Maps.AppendAt
import Derived.OwnWalk
import Derived.Laws.BytesArg
import Derived.Laws.MakeOwn
import Derived.Laws.OwnMore
import Derived.Deep.OwnRows
import Derived.Tactics
import Derived.Lib.ConvBytes
import Derived.Laws.Slices
import Derived.WalkKit
import Derived.KernelRfl
import Derived.RowKit3
import Derived.Deep.LoopGhost
import Derived.Deep.QuietTactic
import Derived.BigQuiet
import Derived.WideLaws
import Derived.Deep.DeepCutAuto
import Derived.Deep.CutBlock
import Derived.Deep.RegionHeld3
import Derived.Laws.Rows
import Derived.Lib.AppendStr
import Derived.ArgAppend
import Derived.Laws.IdiomCopy
import Derived.OrdersHeld
import Derived.Laws.BitsLemmas
import Derived.RowKit
import Derived.Test.YtlpjibmafpegeaaDoorJoin
import Derived.Test.YtlpjibmafpegeaaDoorSumWalk
import Derived.Test.YtlpjibmafpegeaaDoorTold
import Derived.Test.YtlpjibmafpegeaaDoorWWords
import Derived.Test.YtlpjibmafpegeaaDoorWLast
import Derived.Test.YtlpjibmafpegeaaDoorWTab
import Derived.Test.YtlpjibmafpegeaaDoorWFour
import Derived.Test.YtlpjibmafpegeaaDoorWQPut
import Derived.Test.YtlpjibmafpegeaaDoorWApart
import Derived.Test.YtlpjibmafpegeaaDoorWArr
import Derived.Test.YtlpjibmafpegeaaDoorWZeros
import Derived.Test.YtlpjibmafpegeaaDoorWFoot
import Derived.Test.YtlpjibmafpegeaaDoorWKept
import Derived.Test.YtlpjibmafpegeaaDoorWShare
import Derived.Test.YtlpjibmafpegeaaDoorWN
import Derived.Test.YtlpjibmafpegeaaDoorWFootNe
import Derived.Test.YtlpjibmafpegeaaDoorWAt
import Derived.Test.YtlpjibmafpegeaaDoorWEqStruct
import Derived.Test.YtlpjibmafpegeaaDoorWRepsOne
import Derived.Test.YtlpjibmafpegeaaDoorWInv
import Derived.Test.YtlpjibmafpegeaaDoorWInvWords
import Derived.Test.YtlpjibmafpegeaaDoorWGuard
import Derived.Test.YtlpjibmafpegeaaDoorWNEv
import Derived.Test.YtlpjibmafpegeaaDoorWMore
namespace Go.Proofs.YtlpjibmafpegeaaDoor.PR
open Go.RowKit Go.Proofs.YtlpjibmafpegeaaDoorW.PrintWords Go.Proofs.YtlpjibmafpegeaaDoorW.PrintLast Go.Proofs.YtlpjibmafpegeaaDoorW.PrintMore
attribute [local go_sem] max2_int min2_int max_two min_two max_three min_three max_four min_four   -- for this text's walks alone
set_option linter.unusedVariables false
set_option linter.unusedSimpArgs false



def errW : Option Int → Value
  | none => .nilIface
  | some c => .iface 0 (.int .i64 c)
theorem errW_none : errW none = .nilIface := rfl
theorem errW_some (c : Int) : errW (some c) = .iface 0 (.int .i64 c) := rfl

theorem info5 : (Tryd.prog.info? 5).map (fun i => (i.zero, i.size, i.bytes)) = some (some (.int .u8 0), 1, 1) := by kernel_rfl
-- the values' own types

end Go.Proofs.YtlpjibmafpegeaaDoor.PR
