/-
  No cell of these rows narrows 'for every input' (looked for: loops, veiled, ifaces, maps, wideKeys, modest, calm, conditions, laid).
  DERIVED. THE GIVEN ROWS OF THIS SEAT. 3 by the template 'for every input the law returns true; each argument reads behind the call as it read before'; 0 by the template 'total and deterministic' (their statements: YtbpadimcnamdpaaTotals.lean).
  GIVEN WITH THE SEED: the statements are not yours to turn. If you find one false, say at which input.
  Laid BY PROGRAM, IN A SANDBOX (cutbox-rows.mjs): the forced cells as the released guide's own fill.sh prints them over the translation 42b16fc9f6b2a586… (all of the seat's roots in one cut). By AI agents, Wed Nov 11 2026. No macro, syntax, notation, axiom, sorry.
-/
import Derived.Test.YtbpadimcnamdpaaChecked
import GoSem.Claim
import GoSem.ClaimJoined
import GoSem.ClaimMapViews
import Derived.JoinedTies
import Derived.KernelRfl
namespace Go.Proofs.Ytbpadimcnamdpaa
/- THE CELL 'sum', in the pinned program and in every row, IS THE sha256 OF THE DUMP (.gsa) THAT YtbpadimcnamdpaaProg.lean LOADS. Nothing in Lean hashes anything: it is a label: what it is worth is what the hold of that sum in a sandbox is worth. -/
noncomputable def Try.pinned : Pinned := { name := "ytbpadimcnamdpaa", sum := "42b16fc9f6b2a58643c91ad5c4d19280f478789ee396d6ce2fb2f24a1f1ea649", checked := Try.checked }
namespace Rows
def none {H : Type} : Left H := { results := [], args := [] }

/-- 'affluxlaw22.LockUnions': WHATEVER THE INPUT: true; the input reads as it did. -/
def lockUnionsSpec : ChangeSpec := { name := "lockUnions", fn := fun _ => fun
  | [d1, d2] => { results := [.lit (.bool true)], args := [d1, d2] }
  | _ => none }
def lockUnionsRow : OpenClaim := { program := "ytbpadimcnamdpaa", sum := "42b16fc9f6b2a58643c91ad5c4d19280f478789ee396d6ce2fb2f24a1f1ea649", func := "afflux/affluxlaw22.LockUnions", spec := "lockUnions", unfollowed := true, recurses := true, apart := false }
def LockUnionsSaid : Prop := lockUnionsRow.holds Try.pinned (OpenSpec.ofChange lockUnionsSpec)

/-- ITS FALSE NEIGHBOUR: 'it returns false'. Refute it at one input. -/
def lockUnionsWrong : ChangeSpec := { name := "lockUnions", fn := fun _ => fun
  | [d1, d2] => { results := [.lit (.bool false)], args := [d1, d2] }
  | _ => none }
def LockUnionsWrongFalsely : Prop := lockUnionsRow.holds Try.pinned (OpenSpec.ofChange lockUnionsWrong)

/-- 'affluxlaw22.LockSafe': WHATEVER THE INPUT: true; the input reads as it did. -/
def lockSafeSpec : ChangeSpec := { name := "lockSafe", fn := fun _ => fun
  | [d] => { results := [.lit (.bool true)], args := [d] }
  | _ => none }
def lockSafeRow : OpenClaim := { program := "ytbpadimcnamdpaa", sum := "42b16fc9f6b2a58643c91ad5c4d19280f478789ee396d6ce2fb2f24a1f1ea649", func := "afflux/affluxlaw22.LockSafe", spec := "lockSafe", unfollowed := true, recurses := true, apart := false }
def LockSafeSaid : Prop := lockSafeRow.holds Try.pinned (OpenSpec.ofChange lockSafeSpec)

/-- ITS FALSE NEIGHBOUR: 'it returns false'. Refute it at one input. -/
def lockSafeWrong : ChangeSpec := { name := "lockSafe", fn := fun _ => fun
  | [d] => { results := [.lit (.bool false)], args := [d] }
  | _ => none }
def LockSafeWrongFalsely : Prop := lockSafeRow.holds Try.pinned (OpenSpec.ofChange lockSafeWrong)

/-- 'affluxlaw22.LockNone': WHATEVER THE INPUT: true; the input reads as it did. -/
def lockNoneSpec : ChangeSpec := { name := "lockNone", fn := fun _ => fun
  | [d1, d2] => { results := [.lit (.bool true)], args := [d1, d2] }
  | _ => none }
def lockNoneRow : OpenClaim := { program := "ytbpadimcnamdpaa", sum := "42b16fc9f6b2a58643c91ad5c4d19280f478789ee396d6ce2fb2f24a1f1ea649", func := "afflux/affluxlaw22.LockNone", spec := "lockNone", unfollowed := true, recurses := true, apart := false }
def LockNoneSaid : Prop := lockNoneRow.holds Try.pinned (OpenSpec.ofChange lockNoneSpec)

/-- ITS FALSE NEIGHBOUR: 'it returns false'. Refute it at one input. -/
def lockNoneWrong : ChangeSpec := { name := "lockNone", fn := fun _ => fun
  | [d1, d2] => { results := [.lit (.bool false)], args := [d1, d2] }
  | _ => none }
def LockNoneWrongFalsely : Prop := lockNoneRow.holds Try.pinned (OpenSpec.ofChange lockNoneWrong)

/- THE SECOND FORM. 'bulk': how many values and letters a reading holds, each counted each time it is reached (what is shared counts as often as it is met; a slice's spare places count too). A statement '..UptoSaid' is the law's where the arguments, and the package variables that the reading takes, are together of bulk at most 1048576: NARROWER than '..Said'. Prove '..Said' where nothing that the law and all that it calls make is longer than what came in: it says more and counts as full. Else prove '..UptoSaid'. A law counts once. -/
mutual
def uptoBulk {H : Type} : DataW H → Nat
  | .lit (.string bytes) => bytes.length + 1
  | .lit _ => 1
  | .nil => 1
  | .ptr d => uptoBulk d + 1
  | .slice elems spare => uptoBulkAll elems + uptoBulkAll spare + 1
  | .agg parts => uptoBulkAll parts + 1
  | .iface _ d => uptoBulk d + 1
  | .map entries => uptoBulkEntries entries + 1
  | .held _ => 1
def uptoBulkAll {H : Type} : List (DataW H) → Nat
  | [] => 0
  | d :: r => uptoBulk d + uptoBulkAll r
def uptoBulkEntries {H : Type} : List (Lit × DataW H) → Nat
  | [] => 0
  | x :: r => uptoBulkEntry x + uptoBulkEntries r
def uptoBulkEntry {H : Type} : Lit × DataW H → Nat
  | (.string bytes, d) => bytes.length + uptoBulk d + 1
  | (_, d) => uptoBulk d + 1
 end
def uptoSmall : (H : Type) → List (DataW H) → Bool := fun _ ds => decide (uptoBulkAll ds ≤ 1048576)
def OpenSpec.upto (s : _root_.Go.ChangeSpec) : _root_.Go.OpenSpec := { _root_.Go.OpenSpec.ofChange s with cond := some uptoSmall }

/-- 'affluxlaw22.LockUnions', WHERE WHAT IT READS IS OF BULK AT MOST 1048576: true; the input reads as it did. -/
def lockUnionsUptoRow : OpenClaim := { program := "ytbpadimcnamdpaa", sum := "42b16fc9f6b2a58643c91ad5c4d19280f478789ee396d6ce2fb2f24a1f1ea649", func := "afflux/affluxlaw22.LockUnions", spec := "lockUnions", unfollowed := true, recurses := true, apart := false, narrowed := true }
def LockUnionsUptoSaid : Prop := lockUnionsUptoRow.holds Try.pinned (OpenSpec.upto lockUnionsSpec)

/-- 'affluxlaw22.LockSafe', WHERE WHAT IT READS IS OF BULK AT MOST 1048576: true; the input reads as it did. -/
def lockSafeUptoRow : OpenClaim := { program := "ytbpadimcnamdpaa", sum := "42b16fc9f6b2a58643c91ad5c4d19280f478789ee396d6ce2fb2f24a1f1ea649", func := "afflux/affluxlaw22.LockSafe", spec := "lockSafe", unfollowed := true, recurses := true, apart := false, narrowed := true }
def LockSafeUptoSaid : Prop := lockSafeUptoRow.holds Try.pinned (OpenSpec.upto lockSafeSpec)

/-- 'affluxlaw22.LockNone', WHERE WHAT IT READS IS OF BULK AT MOST 1048576: true; the input reads as it did. -/
def lockNoneUptoRow : OpenClaim := { program := "ytbpadimcnamdpaa", sum := "42b16fc9f6b2a58643c91ad5c4d19280f478789ee396d6ce2fb2f24a1f1ea649", func := "afflux/affluxlaw22.LockNone", spec := "lockNone", unfollowed := true, recurses := true, apart := false, narrowed := true }
def LockNoneUptoSaid : Prop := lockNoneUptoRow.holds Try.pinned (OpenSpec.upto lockNoneSpec)

end Rows
end Go.Proofs.Ytbpadimcnamdpaa
