/- DiskPlays: whatever is done: each answer, and all files behind it. No condition beyond the row's own. -/
import Derived.Test.YtihlacambdfmfaaDkE1
import Derived.Test.YtihlacambdfmfaaDkE3
namespace Go.Proofs.Ytihlacambdfmfaa
open Go.ChangeShapes Go.WideShapes Go.ChangeAt Go.RowKit
open Go.ChangeMaps (open_string)
namespace LawDiskPlays
set_option maxRecDepth 100000 in
theorem lifted (os : Os) (started : os.Started) (H : Type) (enc : TypeId × Value → H) :
    ReturnsInHanded {} Try.checked os 6 .any (Rows.diskPlaysSpec.pre6 enc Try.prog Try.f6 Rows.diskPlaysRow.domain false) (Rows.diskPlaysSpec.post enc Try.prog Try.f6 false true false false) := by
  refine returnsInHanded_of_change_sized (C := Try.checked) ownKnobNone started (by kernel_rfl) Try.func6
    (ChangeSpec.witness6 (enc := enc) (C := Try.checked) false ⟨#[], #[.int .i64 0, .slice none 0 0], []⟩ 8 (by kernel_rfl) (by kernel_rfl) (by kernel_rfl) (by kernel_rfl)) ?_
  intro W base args ds gs before hval0 hW hcnd hsz0 _
  have hval : ∀ (j : Nat) t v, Try.f6.params[j]? = some t → args[j]? = some v → Value.okWide Try.prog W .any base t v := hval0
  have hW' := hW
  obtain ⟨p, q, hA0, hV, rfl, hfz, hnd⟩ := hW
  have hA : DataW.TrodAll enc Try.prog W 0 (fun _ => true) true Try.f6.params.toList args.toList ds p := hA0
  rw [Try.params6] at hA hval
  obtain ⟨v0, vs0, d0, ds0, p0, q0, hargs, rfl, rfl, h0, r0⟩ := trodAll_cons hA
  obtain ⟨v1, vs1, d1, ds1, p1, q1, rfl, rfl, rfl, h1, r1⟩ := trodAll_cons r0
  obtain ⟨rfl, rfl, rfl⟩ := trodAll_nil r1
  obtain rfl : args = #[v0, v1] := by cases args; simp_all
  obtain ⟨rfl, rfl⟩ := trodVars_none hV
  obtain ⟨a0, rfl, rfl, rfl, ha0⟩ := open_int Try.underlying3 (hval 0 3 v0 rfl rfl) h0
  obtain ⟨A1, c1, l1, rfl, hc1, hK1, hg1⟩ := Opens.slice_arg Try.underlying39 (Opens.opn_slice Try.underlying39 (by kernel_rfl) (Opens.opn_iso (Opens.opn_struct Try.underlying47 (by kernel_rfl) (Opens.opnF_cons rfl (Opens.opn_int Try.underlying3 (by kernel_rfl)) (Opens.opnF_cons rfl (Opens.opn_string Try.underlying9 (by kernel_rfl)) (Opens.opnF_cons rfl (Opens.opn_string Try.underlying9 (by kernel_rfl)) (Opens.opnF_cons rfl (Opens.opn_slice Try.underlying22 (by kernel_rfl) (Opens.opn_string Try.underlying9 (by kernel_rfl))) (Opens.opnF_cons rfl (Opens.opn_int Try.underlying3 (by kernel_rfl)) (Opens.opnF_one rfl (Opens.opn_slice Try.underlying45 (by kernel_rfl) (Opens.opn_int Try.underlying3 (by kernel_rfl)))))))))) (fun x : PR.S47 => (x.f0, x.f1, x.f2, x.f3, x.f4, x.f5)) (fun p => ⟨p.1, p.2.1, p.2.2.1, p.2.2.2.1, p.2.2.2.2.1, p.2.2.2.2.2⟩) (fun _ => rfl))) (hval 1 39 v1 rfl rfl) h1
  clear hA0 hval0
  have hwf : ∀ x ∈ l1, x.f4 ≤ 9223372036854775807 := fun x hx => by have h9 := hg1.2 x hx; have h8 : (Lit.int .i64 x.f4).wf = true := h9.2.2.2.2.1; have h7 : -9223372036854775808 ≤ x.f4 ∧ x.f4 ≤ 9223372036854775807 := (by simpa [Lit.wf, IntKind.min, IntKind.max, IntKind.bits, IntKind.signed] using h8); exact h7.2
  refine (PK.DiskPlays_calls a0 A1 c1 l1 W hK1 hc1 hwf).mono fun e W' ⟨he, bel⟩ => ?_
  subst he
  exact ⟨_, rfl, post_true 4 rfl (by kernel_rfl) Try.underlying4 rfl (by kernel_rfl) hW' bel⟩
theorem over : Rows.diskPlaysRow.holds Try.pinned (OpenSpec.ofChange Rows.diskPlaysSpec) :=
  OpenClaim.holds_of_wide 6 Try.f6 rfl rfl rfl rfl rfl rfl rfl ⟨rfl, rfl, rfl, rfl, rfl⟩ rfl rfl rfl rfl rfl (by kernel_rfl) Try.func6 (by kernel_rfl)
    (of_decide_eq_true (by kernel_rfl)) (by unfold Func.isWrapper; first | (rw [if_pos (by decide +kernel)]; kernel_rfl) | (rw [if_neg (by decide +kernel)]; exact ⟨rfl, rfl⟩))
    (fun os started H enc _ => lifted os started H enc)
theorem proved : Rows.DiskPlaysSaid := over
#print axioms proved
end LawDiskPlays
/-- The row, under a short name, for the claim. -/
theorem diskPlays_holds : Rows.DiskPlaysSaid := LawDiskPlays.proved
end Go.Proofs.Ytihlacambdfmfaa
