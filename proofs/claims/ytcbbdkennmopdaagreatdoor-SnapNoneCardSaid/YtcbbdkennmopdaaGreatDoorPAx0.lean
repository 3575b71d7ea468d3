-- Written by a program of this repo (wip/pp.py) out of the translation, for this claim.
import Derived.Test.YtcbbdkennmopdaaGreatDoorProg
import Derived.Below
import Derived.Deep.Draws
import Derived.Deep.AppendLies
import Derived.Maps.AppendAt
import Derived.OwnWalk
import Derived.Laws.BytesArg
import Derived.Laws.MakeOwn
import Derived.Laws.OwnMore
import Derived.Deep.OwnRows
import Derived.Tactics
import Derived.Lib.ConvBytes
import Derived.Laws.Slices
import Derived.WalkKit
import Derived.KernelRfl
import Derived.RowKit3
import Derived.Deep.LoopGhost
import Derived.Deep.QuietTactic
import Derived.BigQuiet
import Derived.WideLaws
import Derived.Deep.DeepCutAuto
import Derived.Deep.CutBlock
import Derived.Deep.RegionHeld3
import Derived.Laws.Rows
import Derived.Lib.AppendStr
import Derived.ArgAppend
import Derived.Laws.IdiomCopy
import Derived.OrdersHeld
import Derived.Laws.BitsLemmas
import Derived.RowKit
import Derived.Test.YtcbbdkennmopdaaGreatDoorJoin
import Derived.Test.YtcbbdkennmopdaaGreatDoorPRx1
import Derived.Test.YtcbbdkennmopdaaGreatDoorRefFrame
import Derived.Test.YtcbbdkennmopdaaGreatDoorSumWalk
import Derived.Test.YtcbbdkennmopdaaGreatDoorTold
import Derived.Test.YtcbbdkennmopdaaGreatDoorWWords
import Derived.Test.YtcbbdkennmopdaaGreatDoorWLast
import Derived.Test.YtcbbdkennmopdaaGreatDoorWTab
import Derived.Test.YtcbbdkennmopdaaGreatDoorWFour
import Derived.Test.YtcbbdkennmopdaaGreatDoorWQPut
import Derived.Test.YtcbbdkennmopdaaGreatDoorWApart
import Derived.Test.YtcbbdkennmopdaaGreatDoorWArr
import Derived.Test.YtcbbdkennmopdaaGreatDoorWZeros
import Derived.Test.YtcbbdkennmopdaaGreatDoorWFoot
import Derived.Test.YtcbbdkennmopdaaGreatDoorWKept
import Derived.Test.YtcbbdkennmopdaaGreatDoorWShare
import Derived.Test.YtcbbdkennmopdaaGreatDoorWN
import Derived.Test.YtcbbdkennmopdaaGreatDoorWFootNe
import Derived.Test.YtcbbdkennmopdaaGreatDoorWAt
import Derived.Test.YtcbbdkennmopdaaGreatDoorWEqStruct
import Derived.Test.YtcbbdkennmopdaaGreatDoorWRepsOne
import Derived.Test.YtcbbdkennmopdaaGreatDoorWInv
import Derived.Test.YtcbbdkennmopdaaGreatDoorWInvWords
import Derived.Test.YtcbbdkennmopdaaGreatDoorWGuard
import Derived.Test.YtcbbdkennmopdaaGreatDoorWNEv
import Derived.Test.YtcbbdkennmopdaaGreatDoorWMore
namespace Go.Proofs.YtcbbdkennmopdaaGreatDoor.PA
open Go.RowKit Go.Proofs.YtcbbdkennmopdaaGreatDoorW.PrintWords Go.Proofs.YtcbbdkennmopdaaGreatDoorW.PrintLast Go.Proofs.YtcbbdkennmopdaaGreatDoorW.PrintMore
attribute [local go_sem] max2_int min2_int max_two min_two max_three min_three max_four min_four   -- for this text's walks alone
set_option linter.unusedVariables false
set_option linter.unusedSimpArgs false



def errW : Option Int → Value
  | none => .nilIface
  | some c => .iface 0 (.int .i64 c)
theorem errW_none : errW none = .nilIface := rfl
theorem errW_some (c : Int) : errW (some c) = .iface 0 (.int .i64 c) := rfl

theorem info9 : (Tryz.prog.info? 9).map (fun i => (i.zero, i.size, i.bytes)) = some (some (.string ⟨#[]⟩), 1, 16) := by kernel_rfl
-- the values' own types

end Go.Proofs.YtcbbdkennmopdaaGreatDoor.PA
