/- From a law's walk to its row: whatever the arguments' types. -/
import Derived.Test.YtlpjibmafpegeaaDoorRows
import Derived.Test.YtlpjibmafpegeaaDoorSumWalk
import Derived.Test.YtlpjibmafpegeaaDoorOpens
import Derived.LaidMore
import Derived.LaidHandle
import Derived.MakeChecks
import Derived.OpenShut
import Derived.Stop.Joined
namespace Go.Proofs.YtlpjibmafpegeaaDoor
open Go.ChangeShapes Go.WideShapes Go.ChangeAt Go.RowKit
theorem ownKnobNone : ownKnob Tryd.prog.godebug = none := by kernel_rfl
theorem laidOutProg : laidOutB Tryd.prog = true := by kernel_rfl
/-- What a law is answered: true, the arguments as they were. -/
theorem post_true {H : Type} {enc : TypeId × Value → H} {fn : Func} {spec : ChangeSpec} {W W' : World} {args : Array Value} {ds gs : List (DataW H)} {before : List MemPlace} (tb : TypeId)
    (hvars : spec.vars = []) (hres : fn.resultTypes = #[tb]) (htb : Tryd.prog.underlying tb = some .bool)
    (hfn : spec.fn H (ds ++ gs) = { results := [.lit (.bool true)], args := ds })
    (hread : (fn.params.toList.all fun t => Tryd.prog.readableRec t && decide (t < Tryd.prog.types.size)) = true)
    (hW : DataW.Whole enc Tryd.prog fn.params.toList spec.vars false W args.toList ds gs before) (hb : Below W.heap.size W W') :
    spec.post enc Tryd.prog fn false true false false W args (.bool true) W' := by
  have hW' := hW
  obtain ⟨p, q, hA, hV, _, _, _⟩ := hW
  rw [hvars] at hV
  obtain ⟨rfl, rfl⟩ := trodVars_none hV
  have hread' : ∀ t ∈ fn.params.toList, Tryd.prog.readableRec t = true ∧ t < Tryd.prog.types.size := fun t ht => by
    have := List.all_eq_true.1 hread t ht
    simpa using this
  refine ⟨ds, [], before, [], p, [], hW', ?_, ?_, ?_, hb.frame _, fun h => by cases h⟩
  · rw [hfn, hres]
    exact trodAll_mk1 (shut_bool htb _)
  · rw [hfn]
    exact Opens.trodAll_below laidOutProg hb _ _ _ _ hread' hA (Opens.trodAll_lt _ _ _ _ hA)
  · rw [hfn, hvars]; rfl
/-- The listed table, where the program keeps it. -/
theorem tab_of_laid {W : World} (h : laidMetH Tryd.prog [("afflux/seal.nibbles", Rows.laid_afflux_seal_nibbles)] W) : SumW.Tab W := by
  rw [MakeChecks.laidMetH_plain _ _ _ (by kernel_rfl)] at h
  obtain ⟨ps, ⟨g0, t0, cs0, f0, p0, q0, hg0, ht0, hv0, hd0, _, _⟩, _, _⟩ := h
  obtain rfl := Option.some.inj ((show Tryd.prog.globalNamed "afflux/seal.nibbles" = some 0 by kernel_rfl).symm.trans hg0)
  obtain rfl := Option.some.inj ((show (Tryd.prog.globals[0]?).map (·.type) = some 49 by kernel_rfl).symm.trans ht0)
  obtain ⟨xs, m1, rfl, hx1, hlen, hn3, hel⟩ := DataW.trod_array Tryd.underlying49 hd0
  have cE : Tryd.prog.cellsOf 27 = 1 := by kernel_rfl
  have cA : Tryd.prog.cellsOf 49 = 16 := by kernel_rfl
  intro i hi
  have hcell := World.var?_cell hg0 hv0 i
  rw [hcell]
  have hx := hel i hi
  rw [cE, Nat.mul_one] at hx
  rw [cA] at hlen
  have hxi : i < xs.length := by omega
  rw [List.getElem?_eq_getElem hxi] at hx
  obtain ⟨n, e1, e2, _⟩ := DataW.trod_int Tryd.underlying27 hx
  have hci : i < cs0.size := by rw [← Array.length_toList, hlen]; exact hi
  have hgi : cs0[i]? = some (.int .u64 n) := by
    have h1 : (List.drop i cs0.toList).take 1 = [cs0[i]] := by
      rw [List.drop_eq_getElem_cons (by simpa using hci)]; rfl
    rw [h1] at e1
    rw [Array.getElem?_eq_getElem hci]
    exact congrArg some (List.cons.inj e1).1
  rw [hgi]
  have hdat : (Rows.laid_afflux_seal_nibbles : DataW Unit) = .agg (xs.map (·.1)) := by
    have := congrArg (·.1) hx1
    exact this
  have hn : (xs.map (·.1))[i]? = some (.lit (.int .u64 n)) := by
    rw [List.getElem?_map, List.getElem?_eq_getElem hxi, e2]; rfl
  have hall : ∀ j : Fin 16, (match (Rows.laid_afflux_seal_nibbles : DataW Unit) with | .agg l => l[j.val]? | _ => none) = some (.lit (.int .u64 (Crc.bv (Crc.nibs.getD j.val 0#64)))) := by
    intro j
    match j with
    | ⟨0, _⟩ => rfl
    | ⟨1, _⟩ => rfl
    | ⟨2, _⟩ => rfl
    | ⟨3, _⟩ => rfl
    | ⟨4, _⟩ => rfl
    | ⟨5, _⟩ => rfl
    | ⟨6, _⟩ => rfl
    | ⟨7, _⟩ => rfl
    | ⟨8, _⟩ => rfl
    | ⟨9, _⟩ => rfl
    | ⟨10, _⟩ => rfl
    | ⟨11, _⟩ => rfl
    | ⟨12, _⟩ => rfl
    | ⟨13, _⟩ => rfl
    | ⟨14, _⟩ => rfl
    | ⟨15, _⟩ => rfl
    | ⟨n + 16, h⟩ => exact absurd h (by omega)
  have h2 := hall ⟨i, hi⟩
  rw [hdat] at h2
  simp only at h2
  rw [hn] at h2
  have h3 := Option.some.inj h2
  injection h3 with h4
  injection h4 with _ h5
  rw [h5]
/-- The door's own heap meets the condition. -/
theorem door_met (os : Os) (args : Array Value) : laidMetH Tryd.prog [("afflux/seal.nibbles", Rows.laid_afflux_seal_nibbles)] ((World.doorLaid Tryd.prog 400 os).forCall (fun _ _ => 0) ⟨#[], args, []⟩).memory :=
  laidMetH_of_parts3 (fuel := 8) (laidMet_of_run' 8 (by kernel_rfl) (by kernel_rfl)) (by kernel_rfl) (by kernel_rfl)
end Go.Proofs.YtlpjibmafpegeaaDoor
