/- DiskNone: of no disk, and no power, nothing comes. No condition beyond the row's own. -/
import Derived.Test.YtihlacambdfmfaaDkC1
namespace Go.Proofs.Ytihlacambdfmfaa
open Go.ChangeShapes Go.WideShapes Go.ChangeAt Go.RowKit
open Go.ChangeMaps (open_string)
namespace LawDiskNone
set_option maxRecDepth 100000 in
theorem lifted (os : Os) (started : os.Started) (H : Type) (enc : TypeId × Value → H) :
    ReturnsInHanded {} Try.checked os 7 .any (Rows.diskNoneSpec.pre6 enc Try.prog Try.f7 Rows.diskNoneRow.domain false) (Rows.diskNoneSpec.post enc Try.prog Try.f7 false true false false) := by
  refine returnsInHanded_of_change_sized (C := Try.checked) ownKnobNone started (by kernel_rfl) Try.func7
    (ChangeSpec.witness6 (enc := enc) (C := Try.checked) false ⟨#[], #[.agg #[.int .i64 0, .string ByteArray.empty, .string ByteArray.empty, .slice none 0 0, .int .i64 0, .slice none 0 0]], []⟩ 8 (by kernel_rfl) (by kernel_rfl) (by kernel_rfl) (by kernel_rfl)) ?_
  intro W base args ds gs before hval0 hW hcnd hsz0 _
  have hval : ∀ (j : Nat) t v, Try.f7.params[j]? = some t → args[j]? = some v → Value.okWide Try.prog W .any base t v := hval0
  have hW' := hW
  obtain ⟨p, q, hA0, hV, rfl, hfz, hnd⟩ := hW
  have hA : DataW.TrodAll enc Try.prog W 0 (fun _ => true) true Try.f7.params.toList args.toList ds p := hA0
  rw [Try.params7] at hA hval
  obtain ⟨v0, vs0, d0, ds0, p0, q0, hargs, rfl, rfl, h0, r0⟩ := trodAll_cons hA
  obtain ⟨rfl, rfl, rfl⟩ := trodAll_nil r0
  obtain rfl : args = #[v0] := by cases args; simp_all
  obtain ⟨rfl, rfl⟩ := trodVars_none hV
  obtain ⟨cs0, x0, rfl, hk0, hg0⟩ := Opens.struct_arg Try.underlying47 (Opens.opn_struct Try.underlying47 (by kernel_rfl) (Opens.opnF_cons rfl (Opens.opn_int Try.underlying3 (by kernel_rfl)) (Opens.opnF_cons rfl (Opens.opn_string Try.underlying9 (by kernel_rfl)) (Opens.opnF_cons rfl (Opens.opn_string Try.underlying9 (by kernel_rfl)) (Opens.opnF_cons rfl (Opens.opn_slice Try.underlying22 (by kernel_rfl) (Opens.opn_string Try.underlying9 (by kernel_rfl))) (Opens.opnF_cons rfl (Opens.opn_int Try.underlying3 (by kernel_rfl)) (Opens.opnF_one rfl (Opens.opn_slice Try.underlying45 (by kernel_rfl) (Opens.opn_int Try.underlying3 (by kernel_rfl)))))))))) (hval 0 47 v0 rfl rfl) h0
  clear hA0 hval0
  obtain ⟨cs0l⟩ := cs0
  obtain ⟨A3, c3, A5, c5, e, l3, g3, l5, g5⟩ := PR.k47_open (x := ⟨x0.1, x0.2.1, x0.2.2.1, x0.2.2.2.1, x0.2.2.2.2.1, x0.2.2.2.2.2⟩) hk0
  replace e : cs0l = _ := e
  subst e
  refine (PK.DiskNone_calls ⟨x0.1, x0.2.1, x0.2.2.1, x0.2.2.2.1, x0.2.2.2.2.1, x0.2.2.2.2.2⟩ A3 c3 A5 c5 W l3 g3 l5 g5).mono fun e W' ⟨he, bel⟩ => ?_
  subst he
  exact ⟨_, rfl, post_true 4 rfl (by kernel_rfl) Try.underlying4 rfl (by kernel_rfl) hW' bel⟩
theorem over : Rows.diskNoneRow.holds Try.pinned (OpenSpec.ofChange Rows.diskNoneSpec) :=
  OpenClaim.holds_of_wide 7 Try.f7 rfl rfl rfl rfl rfl rfl rfl ⟨rfl, rfl, rfl, rfl, rfl⟩ rfl rfl rfl rfl rfl (by kernel_rfl) Try.func7 (by kernel_rfl)
    (of_decide_eq_true (by kernel_rfl)) (by unfold Func.isWrapper; first | (rw [if_pos (by decide +kernel)]; kernel_rfl) | (rw [if_neg (by decide +kernel)]; exact ⟨rfl, rfl⟩))
    (fun os started H enc _ => lifted os started H enc)
theorem proved : Rows.DiskNoneSaid := over
#print axioms proved
end LawDiskNone
/-- The row, under a short name, for the claim. -/
theorem diskNone_holds : Rows.DiskNoneSaid := LawDiskNone.proved
end Go.Proofs.Ytihlacambdfmfaa
