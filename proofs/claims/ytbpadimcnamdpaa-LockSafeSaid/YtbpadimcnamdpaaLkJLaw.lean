/- LockSafe: whatever is asked, granted and freed: no two that hold clash; where some wait and none holds, the first one is ready; granted and freed as they become ready all come to an end. No condition beyond the row's own. -/
import Derived.Test.YtbpadimcnamdpaaLkJ1
import Derived.Test.YtbpadimcnamdpaaLkJ2
namespace Go.Proofs.Ytbpadimcnamdpaa
open Go.ChangeShapes Go.WideShapes Go.ChangeAt Go.RowKit
open Go.ChangeMaps (open_string)
namespace LawLockSafe
set_option maxRecDepth 100000 in
theorem lifted (os : Os) (started : os.Started) (H : Type) (enc : TypeId × Value → H) :
    ReturnsInHanded {} Try.checked os 4 .any (Rows.lockSafeSpec.pre6 enc Try.prog Try.f4 Rows.lockSafeRow.domain false) (Rows.lockSafeSpec.post enc Try.prog Try.f4 false true false false) := by
  refine returnsInHanded_of_change_sized (C := Try.checked) ownKnobNone started (by kernel_rfl) Try.func4
    (ChangeSpec.witness6 (enc := enc) (C := Try.checked) false ⟨#[], #[.slice none 0 0], []⟩ 8 (by kernel_rfl) (by kernel_rfl) (by kernel_rfl) (by kernel_rfl)) ?_
  intro W base args ds gs before hval0 hW hcnd hsz0 _
  have hval : ∀ (j : Nat) t v, Try.f4.params[j]? = some t → args[j]? = some v → Value.okWide Try.prog W .any base t v := hval0
  have hW' := hW
  obtain ⟨p, q, hA0, hV, rfl, hfz, hnd⟩ := hW
  have hA : DataW.TrodAll enc Try.prog W 0 (fun _ => true) true Try.f4.params.toList args.toList ds p := hA0
  rw [Try.params4] at hA hval
  obtain ⟨v0, vs0, d0, ds0, p0, q0, hargs, rfl, rfl, h0, r0⟩ := trodAll_cons hA
  obtain ⟨rfl, rfl, rfl⟩ := trodAll_nil r0
  obtain rfl : args = #[v0] := by cases args; simp_all
  obtain ⟨rfl, rfl⟩ := trodVars_none hV
  obtain ⟨A0, c0, l0, rfl, hc0, hK0, hg0⟩ := Opens.slice_arg Try.underlying27 (Opens.opn_slice Try.underlying27 (by kernel_rfl) (Opens.opn_iso (Opens.opn_struct Try.underlying26 (by kernel_rfl) (Opens.opnF_cons rfl (Opens.opn_int Try.underlying3 (by kernel_rfl)) (Opens.opnF_cons rfl (Opens.opn_int Try.underlying3 (by kernel_rfl)) (Opens.opnF_cons rfl (Opens.opn_slice Try.underlying24 (by kernel_rfl) (Opens.opn_int Try.underlying3 (by kernel_rfl))) (Opens.opnF_one rfl (Opens.opn_slice Try.underlying22 (by kernel_rfl) (Opens.opn_iso (Opens.opn_struct Try.underlying31 (by kernel_rfl) (Opens.opnF_cons rfl (Opens.opn_string Try.underlying9 (by kernel_rfl)) (Opens.opnF_one rfl (Opens.opn_bool Try.underlying4 (by kernel_rfl))))) (fun x : PK.S31 => (x.f0, x.f1)) (fun p => ⟨p.1, p.2⟩) (fun _ => rfl)))))))) (fun x : PK.S26 => (x.f0, x.f1, x.f2, x.f3)) (fun p => ⟨p.1, p.2.1, p.2.2.1, p.2.2.2⟩) (fun _ => rfl))) (hval 0 27 v0 rfl rfl) h0
  clear hA0 hval0
  refine (PK.LockSafe_calls A0 c0 l0 W hK0 hc0).mono fun e W' ⟨he, bel⟩ => ?_
  subst he
  exact ⟨_, rfl, post_true 4 rfl (by kernel_rfl) Try.underlying4 rfl (by kernel_rfl) hW' bel⟩
theorem over : Rows.lockSafeRow.holds Try.pinned (OpenSpec.ofChange Rows.lockSafeSpec) :=
  OpenClaim.holds_of_wide 4 Try.f4 rfl rfl rfl rfl rfl rfl rfl ⟨rfl, rfl, rfl, rfl, rfl⟩ rfl rfl rfl rfl rfl (by kernel_rfl) Try.func4 (by kernel_rfl)
    (of_decide_eq_true (by kernel_rfl)) (by unfold Func.isWrapper; first | (rw [if_pos (by decide +kernel)]; kernel_rfl) | (rw [if_neg (by decide +kernel)]; exact ⟨rfl, rfl⟩))
    (fun os started H enc _ => lifted os started H enc)
theorem proved : Rows.LockSafeSaid := over
#print axioms proved
end LawLockSafe
/-- The row, under a short name, for the claim. -/
theorem lockSafe_holds : Rows.LockSafeSaid := LawLockSafe.proved
end Go.Proofs.Ytbpadimcnamdpaa
