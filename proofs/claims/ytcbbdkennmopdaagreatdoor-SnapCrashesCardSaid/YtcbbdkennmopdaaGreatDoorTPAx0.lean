-- Written by a program of this repo (wip/pp.py) out of the translation, for this claim.
import Derived.Test.YtcbbdkennmopdaaGreatDoorProg
import Derived.Below
import Derived.Deep.Draws
import Derived.Deep.AppendLies
import Derived.Maps.AppendAt
import Derived.OwnWalk
import Derived.Laws.BytesArg
import Derived.Laws.MakeOwn
import Derived.Laws.OwnMore
import Derived.Deep.OwnRows
import Derived.Tactics
import Derived.Lib.ConvBytes
import Derived.Laws.Slices
import Derived.WalkKit
import Derived.KernelRfl
import Derived.RowKit3
import Derived.Deep.LoopGhost
import Derived.Deep.QuietTactic
import Derived.BigQuiet
import Derived.WideLaws
import Derived.Deep.DeepCutAuto
import Derived.Deep.CutBlock
import Derived.Deep.RegionHeld3
import Derived.Laws.Rows
import Derived.Lib.AppendStr
import Derived.ArgAppend
import Derived.Laws.IdiomCopy
import Derived.OrdersHeld
import Derived.Laws.BitsLemmas
import Derived.RowKit
import Derived.Test.YtcbbdkennmopdaaGreatDoorTJoin
import Derived.Test.YtcbbdkennmopdaaGreatDoorTPRx1
import Derived.Test.YtcbbdkennmopdaaGreatDoorTRefFrame
import Derived.Test.YtcbbdkennmopdaaGreatDoorTSumWalk
import Derived.Test.YtcbbdkennmopdaaGreatDoorTTold
import Derived.Test.YtcbbdkennmopdaaGreatDoorTWWords
import Derived.Test.YtcbbdkennmopdaaGreatDoorTWLast
import Derived.Test.YtcbbdkennmopdaaGreatDoorTWTab
import Derived.Test.YtcbbdkennmopdaaGreatDoorTWFour
import Derived.Test.YtcbbdkennmopdaaGreatDoorTWQPut
import Derived.Test.YtcbbdkennmopdaaGreatDoorTWApart
import Derived.Test.YtcbbdkennmopdaaGreatDoorTWArr
import Derived.Test.YtcbbdkennmopdaaGreatDoorTWZeros
import Derived.Test.YtcbbdkennmopdaaGreatDoorTWFoot
import Derived.Test.YtcbbdkennmopdaaGreatDoorTWKept
import Derived.Test.YtcbbdkennmopdaaGreatDoorTWShare
import Derived.Test.YtcbbdkennmopdaaGreatDoorTWN
import Derived.Test.YtcbbdkennmopdaaGreatDoorTWFootNe
import Derived.Test.YtcbbdkennmopdaaGreatDoorTWAt
import Derived.Test.YtcbbdkennmopdaaGreatDoorTWEqStruct
import Derived.Test.YtcbbdkennmopdaaGreatDoorTWRepsOne
import Derived.Test.YtcbbdkennmopdaaGreatDoorTWInv
import Derived.Test.YtcbbdkennmopdaaGreatDoorTWInvWords
import Derived.Test.YtcbbdkennmopdaaGreatDoorTWGuard
import Derived.Test.YtcbbdkennmopdaaGreatDoorTWNEv
import Derived.Test.YtcbbdkennmopdaaGreatDoorTWMore
namespace Go.Proofs.YtcbbdkennmopdaaGreatDoor.PA
open Go.RowKit Go.Proofs.YtcbbdkennmopdaaGreatDoorW.PrintWords Go.Proofs.YtcbbdkennmopdaaGreatDoorW.PrintLast Go.Proofs.YtcbbdkennmopdaaGreatDoorW.PrintMore
attribute [local go_sem] max2_int min2_int max_two min_two max_three min_three max_four min_four   -- for this text's walks alone
set_option linter.unusedVariables false
set_option linter.unusedSimpArgs false



def errW : Option Int → Value
  | none => .nilIface
  | some c => .iface 0 (.int .i64 c)
theorem errW_none : errW none = .nilIface := rfl
theorem errW_some (c : Int) : errW (some c) = .iface 0 (.int .i64 c) := rfl

theorem info9 : (Tryz.prog.info? 9).map (fun i => (i.zero, i.size, i.bytes)) = some (some (.string ⟨#[]⟩), 1, 16) := by kernel_rfl
-- the values' own types

end Go.Proofs.YtcbbdkennmopdaaGreatDoor.PA
