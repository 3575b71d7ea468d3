/- From a law's walk to its row: whatever the arguments' types. -/
import Derived.Test.YtbpadimcnamdpaaRows
import Derived.Test.YtbpadimcnamdpaaOpens
import Derived.WalkKit
import Derived.ShutString
import Derived.ChangeOld
import Derived.SizedLaws
import Derived.OpenShut
import Derived.Stop.Joined
namespace Go.Proofs.Ytbpadimcnamdpaa
open Go.ChangeShapes Go.WideShapes Go.ChangeAt Go.RowKit
theorem ownKnobNone : ownKnob Try.prog.godebug = none := by kernel_rfl
theorem laidOutProg : laidOutB Try.prog = true := by kernel_rfl
/-- What a law is answered: true, the arguments as they were. -/
theorem post_true {H : Type} {enc : TypeId × Value → H} {fn : Func} {spec : ChangeSpec} {W W' : World} {args : Array Value} {ds gs : List (DataW H)} {before : List MemPlace} (tb : TypeId)
    (hvars : spec.vars = []) (hres : fn.resultTypes = #[tb]) (htb : Try.prog.underlying tb = some .bool)
    (hfn : spec.fn H (ds ++ gs) = { results := [.lit (.bool true)], args := ds })
    (hread : (fn.params.toList.all fun t => Try.prog.readableRec t && decide (t < Try.prog.types.size)) = true)
    (hW : DataW.Whole enc Try.prog fn.params.toList spec.vars false W args.toList ds gs before) (hb : Below W.heap.size W W') :
    spec.post enc Try.prog fn false true false false W args (.bool true) W' := by
  have hW' := hW
  obtain ⟨p, q, hA, hV, _, _, _⟩ := hW
  rw [hvars] at hV
  obtain ⟨rfl, rfl⟩ := trodVars_none hV
  have hread' : ∀ t ∈ fn.params.toList, Try.prog.readableRec t = true ∧ t < Try.prog.types.size := fun t ht => by
    have := List.all_eq_true.1 hread t ht
    simpa using this
  refine ⟨ds, [], before, [], p, [], hW', ?_, ?_, ?_, hb.frame _, fun h => by cases h⟩
  · rw [hfn, hres]
    exact trodAll_mk1 (shut_bool htb _)
  · rw [hfn]
    exact Opens.trodAll_below laidOutProg hb _ _ _ _ hread' hA (Opens.trodAll_lt _ _ _ _ hA)
  · rw [hfn, hvars]; rfl
end Go.Proofs.Ytbpadimcnamdpaa
