/- lock: comparisons of names. -/
import Derived.Test.YtbpadimcnamdpaaPKx2
import Derived.WalkKit
import Derived.Laws.Cover1
namespace Go.Proofs.Ytbpadimcnamdpaa.PK
open Go.RowKit Go.Proofs.YtbpadimcnamdpaaW.PrintWords Go.Proofs.YtbpadimcnamdpaaW.PrintLast Go.Proofs.YtbpadimcnamdpaaW.PrintMore
set_option maxRecDepth 100000 in
theorem nan_calls (a : ByteArray) (w : World) : Calls Try.prog 39 #[.string a] w fun e w' => e = .returned (.bool false) ∧ w' = w := by
  go_enter Try.func39, Try.ntmps39
  go_wp2
  go_ret
  exact ⟨by simp, rfl⟩
def cmpS (a b : ByteArray) : Int := if Op.bytesLess a.toList b.toList = true then -1 else if a.toList = b.toList then 0 else 1
set_option maxRecDepth 100000 in
theorem cmp_calls (a b : ByteArray) (r : Int) (hr : Aside0 (r = cmpS a b)) (w : World) : Calls Try.prog 25 #[.string a, .string b] w fun e w' => e = .returned (.int .i64 r) ∧ w' = w := by
  go_enter Try.func25, Try.ntmps25
  go_wp2_with fail
  refine (nan_calls a w).mono ?_
  rintro e w1 ⟨rfl, rfl⟩
  go_wp2_with fail
  refine (nan_calls b w1).mono ?_
  rintro e w2 ⟨rfl, rfl⟩
  by_cases h1 : Op.bytesLess a.toList b.toList = true
  · go_wp2
    go_ret
    exact ⟨by rw [hr.out]; unfold cmpS; rw [if_pos h1]; rfl, rfl⟩
  · replace h1 := Bool.eq_false_iff.mpr h1
    by_cases h2 : a.toList = b.toList
    · have h3 : (a.toList == b.toList) = true := beq_iff_eq.2 h2
      have H2 := Aside0.mk h2
      clear h2
      go_wp2
      go_ret
      exact ⟨by rw [hr.out]; unfold cmpS; rw [if_neg (by rw [h1]; decide), if_pos H2.out]; rfl, rfl⟩
    · have h3 : (a.toList == b.toList) = false := beq_eq_false_iff_ne.2 h2
      have H2 := Aside0.mk h2
      clear h2
      go_wp2
      go_ret
      exact ⟨by rw [hr.out]; unfold cmpS; rw [if_neg (by rw [h1]; decide), if_neg H2.out]; rfl, rfl⟩
theorem cmp_callsD (a b : ByteArray) (r : Int) (hr : Aside0 (r = cmpS a b)) (w : World) : Calls Try.prog 25 #[.string a, .string b] w fun e w' => e = .returned (.int .i64 r) ∧ Drawn0 w w' :=
  (cmp_calls a b r hr w).mono fun _ _ ⟨h, e⟩ => ⟨h, ⟨0, e⟩⟩
end Go.Proofs.Ytbpadimcnamdpaa.PK
