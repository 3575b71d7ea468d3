/- SnapCrashes, the tied card: behind a crash at any use within a Save, whatever is kept, what was told ahead of it, or what was saved; another one can be saved then. No condition beyond the row's own. -/
import Derived.Test.YtcbbdkennmopdaaGreatDoorTSnH3
import Derived.Test.YtcbbdkennmopdaaGreatDoorCards
import Derived.Test.YtcbbdkennmopdaaGreatDoorTie
namespace Go.Proofs.YtcbbdkennmopdaaGreatDoor
open Go.ChangeShapes Go.WideShapes Go.ChangeAt Go.RowKit
open Go.ChangeMaps (open_string)
namespace LawSnapCrashes
set_option maxRecDepth 100000 in
theorem lifted (os : Os) (started : os.Started) (H : Type) (enc : TypeId × Value → H) :
    ReturnsInHanded {} Tryz.checked os 6 .any (fun w args => (Rows.snapCrashesSpec.pre enc Tryz.prog Tryz.f6 [] false w args ∧ laidMetH Tryz.prog [("afflux/seal.nibbles", Rows.laid_afflux_seal_nibbles)] w) ∧ sizedMet enc Tryz.prog Tryz.f6 (OpenSpec.ofChange Rows.snapCrashesSpec) false w args)
      (Rows.snapCrashesSpec.post enc Tryz.prog Tryz.f6 false true false false) := by
  refine returnsInHanded_of_change_and (C := Tryz.checked) (X := fun w _ => laidMetH Tryz.prog [("afflux/seal.nibbles", Rows.laid_afflux_seal_nibbles)] w) (fun _ _ _ hh h => h.of_heap hh) ownKnobNone started (by kernel_rfl) Tryz.func6
    (ChangeSpec.witness_shaped (enc := enc) (C := Tryz.checked) (os := os) (X := fun w _ => laidMetH Tryz.prog [("afflux/seal.nibbles", Rows.laid_afflux_seal_nibbles)] w) false (World.doorLaid Tryz.prog 400 os) #[.slice none 0 0, .agg #[.int .i64 0, .slice none 0 0], .int .u8 0, .slice none 0 0] 8 rfl (World.shaped_of_RefB (by kernel_rfl) (by kernel_rfl)) (by kernel_rfl) (by kernel_rfl) (by kernel_rfl) (door_met os _)) ?_
  intro W base args ds gs before hval0 hW _ _ hL _
  have hval : ∀ (j : Nat) t v, Tryz.f6.params[j]? = some t → args[j]? = some v → Value.okWide Tryz.prog W .any base t v := hval0
  have hT := tab_of_laid hL
  have hW' := hW
  obtain ⟨p, q, hA0, hV, rfl, hfz, hnd⟩ := hW
  have hA : DataW.TrodAll enc Tryz.prog W 0 (fun _ => true) true Tryz.f6.params.toList args.toList ds p := hA0
  rw [Tryz.params6] at hA hval
  obtain ⟨v0, vs0, d0, ds0, p0, q0, hargs, rfl, rfl, h0, r0⟩ := trodAll_cons hA
  obtain ⟨v1, vs1, d1, ds1, p1, q1, rfl, rfl, rfl, h1, r1⟩ := trodAll_cons r0
  obtain ⟨v2, vs2, d2, ds2, p2, q2, rfl, rfl, rfl, h2, r2⟩ := trodAll_cons r1
  obtain ⟨v3, vs3, d3, ds3, p3, q3, rfl, rfl, rfl, h3, r3⟩ := trodAll_cons r2
  obtain ⟨rfl, rfl, rfl⟩ := trodAll_nil r3
  obtain rfl : args = #[v0, v1, v2, v3] := by cases args; simp_all
  obtain ⟨rfl, rfl⟩ := trodVars_none hV
  obtain ⟨A0, c0, l0, rfl, hc0, hK0, hg0⟩ := Opens.slice_arg Tryz.underlying51 (Opens.opn_slice Tryz.underlying51 (by kernel_rfl) (Opens.opn_iso (Opens.opn_struct Tryz.underlying53 (by kernel_rfl) (Opens.opnF_cons rfl (Opens.opn_int Tryz.underlying3 (by kernel_rfl)) (Opens.opnF_one rfl (Opens.opn_slice Tryz.underlying28 (by kernel_rfl) (Opens.opn_string Tryz.underlying9 (by kernel_rfl)))))) (fun x : PR.S53 => (x.f0, x.f1)) (fun p => ⟨p.1, p.2⟩) (fun _ => rfl))) (hval 0 51 v0 rfl rfl) h0
  obtain ⟨cs1, x1, rfl, hk1, hg1⟩ := Opens.struct_arg Tryz.underlying53 (Opens.opn_iso (Opens.opn_struct Tryz.underlying53 (by kernel_rfl) (Opens.opnF_cons rfl (Opens.opn_int Tryz.underlying3 (by kernel_rfl)) (Opens.opnF_one rfl (Opens.opn_slice Tryz.underlying28 (by kernel_rfl) (Opens.opn_string Tryz.underlying9 (by kernel_rfl)))))) (fun x : PR.S53 => (x.f0, x.f1)) (fun p => ⟨p.1, p.2⟩) (fun _ => rfl)) (hval 1 53 v1 rfl rfl) h1
  obtain ⟨a2, rfl, rfl, rfl, ha2⟩ := open_int Tryz.underlying5 (hval 2 5 v2 rfl rfl) h2
  obtain ⟨A3, c3, l3, rfl, hc3, hK3, hg3⟩ := Opens.slice_arg Tryz.underlying41 (Opens.opn_slice Tryz.underlying41 (by kernel_rfl) (Opens.opn_int Tryz.underlying3 (by kernel_rfl))) (hval 3 41 v3 rfl rfl) h3
  clear hA0 hval0
  obtain ⟨A1, c1, ecs, hl1, hC1⟩ := PR.k53_open hk1
  obtain rfl : cs1 = #[.int .i64 x1.f0, .slice A1 x1.f1.length c1] := by rw [← Array.toList_inj]; exact ecs
  have hb2 : 0 ≤ a2 ∧ a2 ≤ 255 := by simpa [Lit.wf, IntKind.min, IntKind.max, IntKind.bits, IntKind.signed] using ha2
  obtain ⟨z2, rfl⟩ : ∃ z : Nat, a2 = (z : Int) := ⟨a2.toNat, by omega⟩
  refine (PK.SnapCrashes_calls A0 c0 l0 x1 A1 c1 z2 A3 c3 l3 W hT hK0 hc0 hC1 hl1 (by omega) hK3).mono fun e W' ⟨he, bel⟩ => ?_
  subst he
  exact ⟨_, rfl, post_true 4 rfl (by kernel_rfl) Tryz.underlying4 rfl (by kernel_rfl) hW' bel⟩
theorem over : Rows.snapCrashesRow.holds Tryz.pinned (OpenSpec.ofChange Rows.snapCrashesSpec) :=
  OpenClaim.holds_of_wide 6 Tryz.f6 rfl rfl rfl rfl rfl rfl rfl ⟨rfl, rfl, rfl, rfl, rfl⟩ rfl rfl rfl rfl rfl (by kernel_rfl) Tryz.func6 (by kernel_rfl)
    (of_decide_eq_true (by kernel_rfl)) (by unfold Func.isWrapper; first | (rw [if_pos (by decide +kernel)]; kernel_rfl) | (rw [if_neg (by decide +kernel)]; exact ⟨rfl, rfl⟩))
    (fun os started H enc _ => lifted os started H enc)
theorem card_holds : Rows.SnapCrashesCardSaid :=
  Claim7.holds_tied_plain_at .later [] [.data] true (true, "7f60f649f3fd0ac5f00429f7e23897299af536c09a805f7cacd1317e45bee9ee") false
    over (fun _ h => by cases h) (by kernel_rfl) (fun _ h => by cases h) snapCrashes_row_tie rfl ⟨rfl, rfl⟩ (by kernel_rfl) rfl
    (fun f fn hf hfn => by
      obtain rfl : f = 6 := Option.some.inj ((show Tryz.prog.funcNamed "afflux/affluxlaw26.SnapCrashes" = some 6 by kernel_rfl).symm.trans hf) |>.symm
      obtain rfl : fn = Tryz.f6 := (Option.some.inj (Tryz.func6.symm.trans hfn)).symm
      exact ⟨by kernel_rfl, fun j t ht => by
        rw [Tryz.params6] at ht
        have hm : t ∈ [51, 53, 5, 41] := by simpa using Array.mem_of_getElem? ht
        have hall : ([51, 53, 5, 41].all fun u => !Tryz.prog.wantsStandIn u) = true := by kernel_rfl
        exact (show Tryz.prog.wantsStandIn t = false by simpa using List.all_eq_true.1 hall t hm)⟩)
    (by kernel_rfl)
#print axioms card_holds
end LawSnapCrashes
/-- The card, under a short name, for the claim. -/
theorem snapCrashes_card : Rows.SnapCrashesCardSaid := LawSnapCrashes.card_holds
end Go.Proofs.YtcbbdkennmopdaaGreatDoor
