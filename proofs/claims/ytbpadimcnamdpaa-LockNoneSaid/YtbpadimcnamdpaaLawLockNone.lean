/- LockNone: of no table nothing comes. No condition beyond the row's own. -/
import Derived.Test.YtbpadimcnamdpaaRowP
import Derived.Test.YtbpadimcnamdpaaLkNone
namespace Go.Proofs.Ytbpadimcnamdpaa
open Go.ChangeShapes Go.WideShapes Go.ChangeAt Go.RowKit
open Go.ChangeMaps (open_string)
namespace LawLockNone
set_option maxRecDepth 100000 in
theorem lifted (os : Os) (started : os.Started) (H : Type) (enc : TypeId × Value → H) :
    ReturnsInHanded {} Try.checked os 5 .any (Rows.lockNoneSpec.pre6 enc Try.prog Try.f5 Rows.lockNoneRow.domain false) (Rows.lockNoneSpec.post enc Try.prog Try.f5 false true false false) := by
  refine returnsInHanded_of_change_sized (C := Try.checked) ownKnobNone started (by kernel_rfl) Try.func5
    (ChangeSpec.witness6 (enc := enc) (C := Try.checked) false ⟨#[], #[.int .i64 0, .agg #[.string ByteArray.empty, .bool false]], []⟩ 8 (by kernel_rfl) (by kernel_rfl) (by kernel_rfl) (by kernel_rfl)) ?_
  intro W base args ds gs before hval0 hW hcnd hsz0 _
  have hval : ∀ (j : Nat) t v, Try.f5.params[j]? = some t → args[j]? = some v → Value.okWide Try.prog W .any base t v := hval0
  have hW' := hW
  obtain ⟨p, q, hA0, hV, rfl, hfz, hnd⟩ := hW
  have hA : DataW.TrodAll enc Try.prog W 0 (fun _ => true) true Try.f5.params.toList args.toList ds p := hA0
  rw [Try.params5] at hA hval
  obtain ⟨v0, vs0, d0, ds0, p0, q0, hargs, rfl, rfl, h0, r0⟩ := trodAll_cons hA
  obtain ⟨v1, vs1, d1, ds1, p1, q1, rfl, rfl, rfl, h1, r1⟩ := trodAll_cons r0
  obtain ⟨rfl, rfl, rfl⟩ := trodAll_nil r1
  obtain rfl : args = #[v0, v1] := by cases args; simp_all
  obtain ⟨rfl, rfl⟩ := trodVars_none hV
  obtain ⟨a0, rfl, rfl, rfl, ha0⟩ := open_int Try.underlying3 (hval 0 3 v0 rfl rfl) h0
  obtain ⟨cs, x, rfl, hk, hg⟩ := Opens.struct_arg Try.underlying31 (Opens.opn_struct Try.underlying31 (by kernel_rfl) (Opens.opnF_cons rfl (Opens.opn_string Try.underlying9 (by kernel_rfl)) (Opens.opnF_one rfl (Opens.opn_bool Try.underlying4 (by kernel_rfl))))) (hval 1 31 v1 rfl rfl) h1
  obtain ⟨c1, c2, hcs, e1, e2⟩ := hk
  obtain rfl : cs = #[.string x.1, .bool x.2] := by
    have h3 : c1 = [.string x.1] := e1
    have h4 : c2 = [.bool x.2] := e2
    rw [h3, h4] at hcs
    cases cs; simp_all
  clear hA0 hval0
  refine (PK.LockNone_calls a0 x.1 x.2 W).mono fun e W' ⟨he, bel⟩ => ?_
  subst he
  exact ⟨_, rfl, post_true 4 rfl (by kernel_rfl) Try.underlying4 rfl (by kernel_rfl) hW' bel⟩
theorem over : Rows.lockNoneRow.holds Try.pinned (OpenSpec.ofChange Rows.lockNoneSpec) :=
  OpenClaim.holds_of_wide 5 Try.f5 rfl rfl rfl rfl rfl rfl rfl ⟨rfl, rfl, rfl, rfl, rfl⟩ rfl rfl rfl rfl rfl (by kernel_rfl) Try.func5 (by kernel_rfl)
    (of_decide_eq_true (by kernel_rfl)) (by unfold Func.isWrapper; first | (rw [if_pos (by decide +kernel)]; kernel_rfl) | (rw [if_neg (by decide +kernel)]; exact ⟨rfl, rfl⟩))
    (fun os started H enc _ => lifted os started H enc)
theorem proved : Rows.LockNoneSaid := over
#print axioms proved
end LawLockNone
/-- The row, under a short name, for the claim. -/
theorem lockNone_holds : Rows.LockNoneSaid := LawLockNone.proved
end Go.Proofs.Ytbpadimcnamdpaa
