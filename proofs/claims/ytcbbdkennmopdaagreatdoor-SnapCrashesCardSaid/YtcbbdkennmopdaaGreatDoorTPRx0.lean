-- Written by a program of this repo (wip/pp.py) out of the translation, for this claim.
import Derived.Test.YtcbbdkennmopdaaGreatDoorProg
import Derived.Below
import Derived.Deep.Draws
import Derived.Deep.AppendLies
import Derived.Maps.AppendAt
import Derived.OwnWalk
import Derived.Laws.BytesArg
import Derived.Laws.MakeOwn
import Derived.Laws.OwnMore
import Derived.Deep.OwnRows
import Derived.Tactics
import Derived.Lib.ConvBytes
import Derived.Laws.Slices
import Derived.WalkKit
import Derived.KernelRfl
import Derived.RowKit3
import Derived.Deep.LoopGhost
import Derived.Deep.QuietTactic
import Derived.BigQuiet
import Derived.WideLaws
import Derived.Deep.DeepCutAuto
import Derived.Deep.CutBlock
import Derived.Deep.RegionHeld3
import Derived.Laws.Rows
import Derived.Lib.AppendStr
import Derived.ArgAppend
import Derived.Laws.IdiomCopy
import Derived.OrdersHeld
import Derived.Laws.BitsLemmas
import Derived.RowKit
import Derived.Test.YtcbbdkennmopdaaGreatDoorTJoin
import Derived.Test.YtcbbdkennmopdaaGreatDoorTSumWalk
import Derived.Test.YtcbbdkennmopdaaGreatDoorTTold
import Derived.Test.YtcbbdkennmopdaaGreatDoorTWWords
import Derived.Test.YtcbbdkennmopdaaGreatDoorTWLast
import Derived.Test.YtcbbdkennmopdaaGreatDoorTWTab
import Derived.Test.YtcbbdkennmopdaaGreatDoorTWFour
import Derived.Test.YtcbbdkennmopdaaGreatDoorTWQPut
import Derived.Test.YtcbbdkennmopdaaGreatDoorTWApart
import Derived.Test.YtcbbdkennmopdaaGreatDoorTWArr
import Derived.Test.YtcbbdkennmopdaaGreatDoorTWZeros
import Derived.Test.YtcbbdkennmopdaaGreatDoorTWFoot
import Derived.Test.YtcbbdkennmopdaaGreatDoorTWKept
import Derived.Test.YtcbbdkennmopdaaGreatDoorTWShare
import Derived.Test.YtcbbdkennmopdaaGreatDoorTWN
import Derived.Test.YtcbbdkennmopdaaGreatDoorTWFootNe
import Derived.Test.YtcbbdkennmopdaaGreatDoorTWAt
import Derived.Test.YtcbbdkennmopdaaGreatDoorTWEqStruct
import Derived.Test.YtcbbdkennmopdaaGreatDoorTWRepsOne
import Derived.Test.YtcbbdkennmopdaaGreatDoorTWInv
import Derived.Test.YtcbbdkennmopdaaGreatDoorTWInvWords
import Derived.Test.YtcbbdkennmopdaaGreatDoorTWGuard
import Derived.Test.YtcbbdkennmopdaaGreatDoorTWNEv
import Derived.Test.YtcbbdkennmopdaaGreatDoorTWMore
namespace Go.Proofs.YtcbbdkennmopdaaGreatDoor.PR
open Go.RowKit Go.Proofs.YtcbbdkennmopdaaGreatDoorW.PrintWords Go.Proofs.YtcbbdkennmopdaaGreatDoorW.PrintLast Go.Proofs.YtcbbdkennmopdaaGreatDoorW.PrintMore
attribute [local go_sem] max2_int min2_int max_two min_two max_three min_three max_four min_four   -- for this text's walks alone
set_option linter.unusedVariables false
set_option linter.unusedSimpArgs false



def errW : Option Int → Value
  | none => .nilIface
  | some c => .iface 0 (.int .i64 c)
theorem errW_none : errW none = .nilIface := rfl
theorem errW_some (c : Int) : errW (some c) = .iface 0 (.int .i64 c) := rfl

theorem info5 : (Tryz.prog.info? 5).map (fun i => (i.zero, i.size, i.bytes)) = some (some (.int .u8 0), 1, 1) := by kernel_rfl
/-! #### struct type 53 -/
structure S53 where
  f0 : Int
  f1 : (List ByteArray)
def z53 : S53 := ⟨(0 : Int), ([] : List ByteArray)⟩
def k53 : Kd S53 := Kd.iso (Kd.pair (Kd.int .i64) (Kd.slice 9 Kd.string)) (fun x : S53 => (x.f0, x.f1))
theorem k53_open {w : World} {x : S53} {cs : List Value} (h : k53.K w x cs) : ∃ A1 c1, cs = [.int .i64 x.f0, .slice A1 x.f1.length c1] ∧ x.f1.length ≤ c1 ∧ Kd.string.C w A1 x.f1.length x.f1 := by
  obtain ⟨_, _, rfl, rfl, ⟨A1, c1, rfl, l1, g1⟩⟩ := h
  exact ⟨A1, c1, rfl, l1, g1⟩
theorem k53_mk (w : World) (x : S53) {A1 : Option Addr} {c1 : Nat} (l1 : x.f1.length ≤ c1) (g1 : Kd.string.C w A1 x.f1.length x.f1) : k53.K w x [.int .i64 x.f0, .slice A1 x.f1.length c1] := ⟨[.int .i64 x.f0], [.slice A1 x.f1.length c1], rfl, rfl, ⟨A1, c1, rfl, l1, g1⟩⟩
def rd_T53 (xs : List S53) (i : Int) : S53 := xs.getD i.toNat z53
theorem at_T53 {w : World} {A : Option Addr} {n : Nat} {xs : List S53} (h : Kd.C k53 w A n xs) (i : Int) (h0 : 0 ≤ i) (h1 : i < n) : ∃ ad A1 c1, A = some ad ∧ w.cell? (ad.add (i.toNat * 2)) = some (.int .i64 (rd_T53 xs i).f0) ∧ w.cell? ⟨(ad.add (i.toNat * 2)).block, (ad.add (i.toNat * 2)).off + 1, none⟩ = some (.slice A1 (rd_T53 xs i).f1.length c1) ∧ (rd_T53 xs i).f1.length ≤ c1 ∧ Kd.string.C w A1 (rd_T53 xs i).f1.length (rd_T53 xs i).f1 := by
  obtain ⟨ad, c, e, _, hK, hc0⟩ := Kd.C_get h z53 i h0 h1
  have hc : ∀ j u, c[j]? = some u → w.cell? (ad.add (i.toNat * 2 + j)) = some u := hc0
  obtain ⟨A1, c1, rfl, l1, g1⟩ := k53_open hK
  exact ⟨ad, A1, c1, e, hc 0 _ rfl, by rw [← add_field _ _ 1 (by omega)]; exact hc 1 _ rfl, l1, g1⟩

end Go.Proofs.YtcbbdkennmopdaaGreatDoor.PR
