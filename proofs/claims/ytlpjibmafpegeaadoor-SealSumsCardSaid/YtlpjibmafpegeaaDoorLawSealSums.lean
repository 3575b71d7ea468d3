/- SealSums, the tied card: any texts' sum, added together or one by one, and their frame, are the document's. No condition beyond the row's own. -/
import Derived.Test.YtlpjibmafpegeaaDoorRow
import Derived.Test.YtlpjibmafpegeaaDoorSumsWalk
import Derived.Test.YtlpjibmafpegeaaDoorCards
import Derived.Test.YtlpjibmafpegeaaDoorTie
namespace Go.Proofs.YtlpjibmafpegeaaDoor
open Go.ChangeShapes Go.WideShapes Go.ChangeAt Go.RowKit
open Go.ChangeMaps (open_string)
namespace LawSealSums
set_option maxRecDepth 100000 in
theorem lifted (os : Os) (started : os.Started) (H : Type) (enc : TypeId × Value → H) :
    ReturnsInHanded {} Tryd.checked os 3 .any (fun w args => (Rows.sealSumsSpec.pre enc Tryd.prog Tryd.f3 [] false w args ∧ laidMetH Tryd.prog [("afflux/seal.nibbles", Rows.laid_afflux_seal_nibbles)] w) ∧ sizedMet enc Tryd.prog Tryd.f3 (OpenSpec.ofChange Rows.sealSumsSpec) false w args)
      (Rows.sealSumsSpec.post enc Tryd.prog Tryd.f3 false true false false) := by
  refine returnsInHanded_of_change_and (C := Tryd.checked) (X := fun w _ => laidMetH Tryd.prog [("afflux/seal.nibbles", Rows.laid_afflux_seal_nibbles)] w) (fun _ _ _ hh h => h.of_heap hh) ownKnobNone started (by kernel_rfl) Tryd.func3
    (ChangeSpec.witness_shaped (enc := enc) (C := Tryd.checked) (os := os) (X := fun w _ => laidMetH Tryd.prog [("afflux/seal.nibbles", Rows.laid_afflux_seal_nibbles)] w) false (World.doorLaid Tryd.prog 400 os) #[.slice none 0 0] 8 rfl (World.shaped_of_RefB (by kernel_rfl) (by kernel_rfl)) (by kernel_rfl) (by kernel_rfl) (by kernel_rfl) (door_met os _)) ?_
  intro W base args ds gs before hval0 hW _ _ hL _
  have hval : ∀ (j : Nat) t v, Tryd.f3.params[j]? = some t → args[j]? = some v → Value.okWide Tryd.prog W .any base t v := hval0
  have hT := tab_of_laid hL
  have hW' := hW
  obtain ⟨p, q, hA0, hV, rfl, hfz, hnd⟩ := hW
  have hA : DataW.TrodAll enc Tryd.prog W 0 (fun _ => true) true Tryd.f3.params.toList args.toList ds p := hA0
  rw [Tryd.params3] at hA hval
  obtain ⟨v0, vs0, d0, ds0, p0, q0, hargs, rfl, rfl, h0, r0⟩ := trodAll_cons hA
  obtain ⟨rfl, rfl, rfl⟩ := trodAll_nil r0
  obtain rfl : args = #[v0] := by cases args; simp_all
  obtain ⟨rfl, rfl⟩ := trodVars_none hV
  obtain ⟨A0, c0, l0, rfl, hc0, hK0, hg0⟩ := Opens.slice_arg Tryd.underlying22 (Opens.opn_slice Tryd.underlying22 (by kernel_rfl) (Opens.opn_string Tryd.underlying9 (by kernel_rfl))) (hval 0 22 v0 rfl rfl) h0
  clear hA0 hval0
  refine (Sums.calls A0 c0 l0 W hK0 hc0 hT).mono fun e W' ⟨he, bel⟩ => ?_
  subst he
  exact ⟨_, rfl, post_true 4 rfl (by kernel_rfl) Tryd.underlying4 rfl (by kernel_rfl) hW' bel⟩
theorem over : Rows.sealSumsRow.holds Tryd.pinned (OpenSpec.ofChange Rows.sealSumsSpec) :=
  OpenClaim.holds_of_wide 3 Tryd.f3 rfl rfl rfl rfl rfl rfl rfl ⟨rfl, rfl, rfl, rfl, rfl⟩ rfl rfl rfl rfl rfl (by kernel_rfl) Tryd.func3 (by kernel_rfl)
    (of_decide_eq_true (by kernel_rfl)) (by unfold Func.isWrapper; first | (rw [if_pos (by decide +kernel)]; kernel_rfl) | (rw [if_neg (by decide +kernel)]; exact ⟨rfl, rfl⟩))
    (fun os started H enc _ => lifted os started H enc)
theorem card_holds : Rows.SealSumsCardSaid :=
  Claim7.holds_tied_plain_at .later [] [.data] true (true, "8b79c507bd9c485dd39b1318265c4f6623cd9c53a4f4cec3572da01d290f6dd3") false
    over (fun _ h => by cases h) (by kernel_rfl) (fun _ h => by cases h) sealSums_row_tie rfl ⟨rfl, rfl⟩ (by kernel_rfl) rfl
    (fun f fn hf hfn => by
      obtain rfl : f = 3 := Option.some.inj ((show Tryd.prog.funcNamed "afflux/affluxlaw05.SealSums" = some 3 by kernel_rfl).symm.trans hf) |>.symm
      obtain rfl : fn = Tryd.f3 := (Option.some.inj (Tryd.func3.symm.trans hfn)).symm
      exact ⟨by kernel_rfl, fun j t ht => by
        rw [Tryd.params3] at ht
        have hm : t ∈ [22] := by simpa using Array.mem_of_getElem? ht
        have hall : ([22].all fun u => !Tryd.prog.wantsStandIn u) = true := by kernel_rfl
        exact (show Tryd.prog.wantsStandIn t = false by simpa using List.all_eq_true.1 hall t hm)⟩)
    (by kernel_rfl)
#print axioms card_holds
end LawSealSums
/-- The card, under a short name, for the claim. -/
theorem sealSums_card : Rows.SealSumsCardSaid := LawSealSums.card_holds
end Go.Proofs.YtlpjibmafpegeaaDoor
