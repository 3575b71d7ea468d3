/- DiskNames: the names that begin with any texts. No condition beyond the row's own. -/
import Derived.Test.YtihlacambdfmfaaDkD1
namespace Go.Proofs.Ytihlacambdfmfaa
open Go.ChangeShapes Go.WideShapes Go.ChangeAt Go.RowKit
open Go.ChangeMaps (open_string)
namespace LawDiskNames
set_option maxRecDepth 100000 in
theorem lifted (os : Os) (started : os.Started) (H : Type) (enc : TypeId × Value → H) :
    ReturnsInHanded {} Try.checked os 3 .any (Rows.diskNamesSpec.pre6 enc Try.prog Try.f3 Rows.diskNamesRow.domain false) (Rows.diskNamesSpec.post enc Try.prog Try.f3 false true false false) := by
  refine returnsInHanded_of_change_sized (C := Try.checked) ownKnobNone started (by kernel_rfl) Try.func3
    (ChangeSpec.witness6 (enc := enc) (C := Try.checked) false ⟨#[], #[.slice none 0 0, .slice none 0 0], []⟩ 8 (by kernel_rfl) (by kernel_rfl) (by kernel_rfl) (by kernel_rfl)) ?_
  intro W base args ds gs before hval0 hW hcnd hsz0 _
  have hval : ∀ (j : Nat) t v, Try.f3.params[j]? = some t → args[j]? = some v → Value.okWide Try.prog W .any base t v := hval0
  have hW' := hW
  obtain ⟨p, q, hA0, hV, rfl, hfz, hnd⟩ := hW
  have hA : DataW.TrodAll enc Try.prog W 0 (fun _ => true) true Try.f3.params.toList args.toList ds p := hA0
  rw [Try.params3] at hA hval
  obtain ⟨v0, vs0, d0, ds0, p0, q0, hargs, rfl, rfl, h0, r0⟩ := trodAll_cons hA
  obtain ⟨v1, vs1, d1, ds1, p1, q1, rfl, rfl, rfl, h1, r1⟩ := trodAll_cons r0
  obtain ⟨rfl, rfl, rfl⟩ := trodAll_nil r1
  obtain rfl : args = #[v0, v1] := by cases args; simp_all
  obtain ⟨rfl, rfl⟩ := trodVars_none hV
  obtain ⟨A0, c0, l0, rfl, hc0, hK0, hg0⟩ := Opens.slice_arg Try.underlying22 (Opens.opn_slice Try.underlying22 (by kernel_rfl) (Opens.opn_string Try.underlying9 (by kernel_rfl))) (hval 0 22 v0 rfl rfl) h0
  obtain ⟨A1, c1, l1, rfl, hc1, hK1, hg1⟩ := Opens.slice_arg Try.underlying22 (Opens.opn_slice Try.underlying22 (by kernel_rfl) (Opens.opn_string Try.underlying9 (by kernel_rfl))) (hval 1 22 v1 rfl rfl) h1
  clear hA0 hval0
  refine (PK.DiskNames_calls A0 A1 c0 c1 l0 l1 W hK0 hK1 hc0 hc1 hg0.2 hg1.2).mono fun e W' ⟨he, bel⟩ => ?_
  subst he
  exact ⟨_, rfl, post_true 4 rfl (by kernel_rfl) Try.underlying4 rfl (by kernel_rfl) hW' bel⟩
theorem over : Rows.diskNamesRow.holds Try.pinned (OpenSpec.ofChange Rows.diskNamesSpec) :=
  OpenClaim.holds_of_wide 3 Try.f3 rfl rfl rfl rfl rfl rfl rfl ⟨rfl, rfl, rfl, rfl, rfl⟩ rfl rfl rfl rfl rfl (by kernel_rfl) Try.func3 (by kernel_rfl)
    (of_decide_eq_true (by kernel_rfl)) (by unfold Func.isWrapper; first | (rw [if_pos (by decide +kernel)]; kernel_rfl) | (rw [if_neg (by decide +kernel)]; exact ⟨rfl, rfl⟩))
    (fun os started H enc _ => lifted os started H enc)
theorem proved : Rows.DiskNamesSaid := over
#print axioms proved
end LawDiskNames
/-- The row, under a short name, for the claim. -/
theorem diskNames_holds : Rows.DiskNamesSaid := LawDiskNames.proved
end Go.Proofs.Ytihlacambdfmfaa
