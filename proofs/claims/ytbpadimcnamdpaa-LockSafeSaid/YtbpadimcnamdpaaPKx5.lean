-- Written by a program of this repo (wip/pp.py) out of the translation, for this claim.
import Derived.Test.YtbpadimcnamdpaaPKx0
import Derived.Test.YtbpadimcnamdpaaPKx3
namespace Go.Proofs.Ytbpadimcnamdpaa.PK
open Go.RowKit Go.Proofs.YtbpadimcnamdpaaW.PrintWords Go.Proofs.YtbpadimcnamdpaaW.PrintLast Go.Proofs.YtbpadimcnamdpaaW.PrintMore
attribute [local go_sem] max2_int min2_int max_two min_two max_three min_three max_four min_four   -- for this text's walks alone
set_option linter.unusedVariables false
set_option linter.unusedSimpArgs false

-- NOT PRINTED: function 3 (affluxlaw22_LockUnions)

-- NOT PRINTED: function 36 (lock_ask_36)

-- NOT PRINTED: function 19 (lock_Table_Free)

/-! ### affluxlaw22_find: function 26 -/
def affluxlaw22_find.l0 : Nat → List (S55) → Int → Int → Option (Int)
  | 0, _, _, _ => none
  | k + 1, x0, x1, x5 => if x5 < (x0.length : Int) then (if 0 ≤ x5 then (if ((rd_T55 x0 x5).f0) = x1 then (some x5) else (affluxlaw22_find.l0 k x0 x1 (wrap64 (x5 + 1)))) else (none)) else (some (-1))
def affluxlaw22_find.f (k : Nat) (l0 : List (S55)) (a1 : Int) : Option (Int) := affluxlaw22_find.l0 k l0 a1 0
theorem affluxlaw22_find.mono_l : ∀ k, (∀ y0 y1 y2, LeO (affluxlaw22_find.l0 k y0 y1 y2) (affluxlaw22_find.l0 (k + 1) y0 y1 y2))
  | 0 => fun _ _ _ r h => by simp [affluxlaw22_find.l0] at h
  | k + 1 => by
    have ih0 := affluxlaw22_find.mono_l k
    · intro y0 y1 y2
      unfold affluxlaw22_find.l0
      repeat' first
      | (with_reducible exact ih0 _ _ _)
      | (with_reducible exact LeO.refl _)
      | (with_reducible exact LeO.none _)
      | (with_reducible refine LeO.ite ?_ ?_)
      | (with_reducible refine LeO.bind ?_ (fun _ => ?_))
      | exact ih0 _ _ _
      | exact LeO.none _
      | refine LeO.ite ?_ ?_
      | refine LeO.bind ?_ (fun _ => ?_)
theorem affluxlaw22_find.mono : ∀ a0 a1 k, LeO (affluxlaw22_find.f k a0 a1) (affluxlaw22_find.f (k + 1) a0 a1) := by
  intro a0 a1 k
  have ih0 := affluxlaw22_find.mono_l k
  unfold affluxlaw22_find.f
  repeat' first
      | (with_reducible exact ih0 _ _ _)
      | (with_reducible exact LeO.refl _)
      | (with_reducible exact LeO.none _)
      | (with_reducible refine LeO.ite ?_ ?_)
      | (with_reducible refine LeO.bind ?_ (fun _ => ?_))
      | exact ih0 _ _ _
      | exact LeO.none _
      | refine LeO.ite ?_ ?_
      | refine LeO.bind ?_ (fun _ => ?_)
set_option maxHeartbeats 8000000 in
set_option maxRecDepth 100000 in
theorem affluxlaw22_find.calls (k : Nat) (A0 : Option Addr) (c0 : Nat) (l0 : List (S55)) (a1 : Int) (r : Int) (w : World) (hr0 : Kd.C k55 w A0 l0.length l0) (hc0 : l0.length ≤ c0) (h : affluxlaw22_find.f k l0 a1 = some r) :
    Calls Try.prog 26 #[.slice A0 l0.length c0, .int .i64 a1] w fun e w' => e = .returned (.int .i64 r) ∧ Drawn0 w w' := by
  have HR0 := Aside0.mk hr0
  have HC0 := Aside0.mk hc0
  clear hr0 hc0
  have H : (affluxlaw22_find.l0 k l0 a1 0) = some r := h
  clear h
  have H' := Aside0.mk H
  clear H
  go_enter Try.func26, Try.ntmps26
  go_wp2
  go_loopg [5] k (fun kq v5 w' => ∃ (x5_1 : Int), v5 = .int .i64 x5_1 ∧ Aside0 (affluxlaw22_find.l0 kq l0 a1 x5_1 = some r) ∧ Aside0 (kq ≤ k) ∧ Drawn0 w w')
  case atStart => exact ⟨(0), (by first | rfl | (simp; done) | (simp [*]; done)), H', ⟨Nat.le_refl _⟩, by repeat (first | exact Drawn0.refl _ | apply Drawn0.step)⟩
  case round =>
    clear H'
    try clear c2
    try clear p2
    obtain ⟨x5_1, rfl, HA, HK1, ⟨m1, rfl⟩⟩ := hrel
    cases gk with
    | zero => exact absurd HA.out (by simp [affluxlaw22_find.l0])
    | succ k1 =>
      have H := HA.out
      clear HA
      simp only [affluxlaw22_find.l0] at H
      by_cases c3 : x5_1 < (l0.length : Int)
      · rw [if_pos c3] at H
        have c3b0 : decide (x5_1 < (l0.length : Int)) = true := decide_eq_true c3
        clear c3
        by_cases c4 : 0 ≤ x5_1
        · rw [if_pos c4] at H
          have c4b0 : decide (0 ≤ x5_1) = true := decide_eq_true c4
          clear c4
          by_cases c5 : ((rd_T55 l0 x5_1).f0) = a1
          · rw [if_pos c5] at H
            have c5b0 : (((rd_T55 l0 x5_1).f0) == a1) = true := beq_iff_eq.mpr c5
            have c5b1 : (((rd_T55 l0 x5_1).f0) != a1) = false := bne_eq_false_iff_eq.mpr c5
            clear c5
            obtain rfl := Option.some.inj H
            have p144 : 0 ≤ (x5_1 : Int) := of_decide_eq_true (by first | (with_reducible assumption) | assumption)
            have q144 : x5_1 < (l0.length : Int) := of_decide_eq_true (by first | (with_reducible assumption) | assumption)
            obtain ⟨ad144, A144_1, c144_1, e144, hx144_0, hx144_1, hx144_2, hl144_1, hi144_1⟩ := at_T55 HR0.out x5_1 p144 q144
            cases e144
            have HR144_1 := Aside0.mk hi144_1
            have HC144_1 := Aside0.mk hl144_1
            clear hi144_1 hl144_1
            replace p144 := eq_true p144
            replace q144 := eq_true q144
            go_wp2
            go_ret
            exact ⟨by first | rfl | (simp; done) | (simp [*]; done), by repeat (first | exact Drawn0.refl _ | apply Drawn0.step)⟩
          · rw [if_neg c5] at H
            have c5b0 : (((rd_T55 l0 x5_1).f0) == a1) = false := beq_eq_false_iff_ne.mpr c5
            have c5b1 : (((rd_T55 l0 x5_1).f0) != a1) = true := bne_iff_ne.mpr c5
            have H' := Aside0.mk H
            clear H
            have p144 : 0 ≤ (x5_1 : Int) := of_decide_eq_true (by first | (with_reducible assumption) | assumption)
            have q144 : x5_1 < (l0.length : Int) := of_decide_eq_true (by first | (with_reducible assumption) | assumption)
            obtain ⟨ad144, A144_1, c144_1, e144, hx144_0, hx144_1, hx144_2, hl144_1, hi144_1⟩ := at_T55 HR0.out x5_1 p144 q144
            cases e144
            have HR144_1 := Aside0.mk hi144_1
            have HC144_1 := Aside0.mk hl144_1
            clear hi144_1 hl144_1
            replace p144 := eq_true p144
            replace q144 := eq_true q144
            go_wp2
            go_roundg k1
            case measure => have := HK1.out; omega
            case rel => exact ⟨(wrap64 (x5_1 + 1)), (by first | rfl | (simp; done) | (simp [*]; done)), H', ⟨by have := HK1.out; omega⟩, by repeat (first | exact Drawn0.refl _ | apply Drawn0.step)⟩
        · rw [if_neg c4] at H
          exact absurd H (by simp)
      · rw [if_neg c3] at H
        have c3b0 : decide (x5_1 < (l0.length : Int)) = false := decide_eq_false c3
        clear c3
        obtain rfl := Option.some.inj H
        go_wp2
        go_ret
        exact ⟨by first | rfl | (simp; done) | (simp [*]; done), by repeat (first | exact Drawn0.refl _ | apply Drawn0.step)⟩

/-! ### affluxlaw22_ready: function 27 -/
def affluxlaw22_ready.l0 : Nat → List (S55) → Int → Int → Option (Bool)
  | 0, _, _, _ => none
  | k + 1, x0, x1, x5 => if x5 < (x0.length : Int) then (if x5 = x1 then (affluxlaw22_ready.l0 k x0 x1 (wrap64 (x5 + 1))) else (if 0 ≤ x5 then (if (rd_T55 x0 x5).f2 = true then (if 0 ≤ x1 then (if x1 < (x0.length : Int) then ((affluxlaw22_clash.f k ((rd_T55 x0 x5).f1) ((rd_T55 x0 x1).f1)).bind fun t148 => (if t148 = true then (some false) else (affluxlaw22_ready.l0 k x0 x1 (wrap64 (x5 + 1))))) else (none)) else (none)) else (if x5 < x1 then (if 0 ≤ x1 then (if x1 < (x0.length : Int) then ((affluxlaw22_clash.f k ((rd_T55 x0 x5).f1) ((rd_T55 x0 x1).f1)).bind fun t151 => (if t151 = true then (some false) else (affluxlaw22_ready.l0 k x0 x1 (wrap64 (x5 + 1))))) else (none)) else (none)) else (affluxlaw22_ready.l0 k x0 x1 (wrap64 (x5 + 1))))) else (none))) else (if 0 ≤ x1 then (if x1 < (x0.length : Int) then (some (!((rd_T55 x0 x1).f2))) else (none)) else (none))
def affluxlaw22_ready.f (k : Nat) (l0 : List (S55)) (a1 : Int) : Option (Bool) := affluxlaw22_ready.l0 k l0 a1 0
theorem affluxlaw22_ready.mono_l : ∀ k, (∀ y0 y1 y2, LeO (affluxlaw22_ready.l0 k y0 y1 y2) (affluxlaw22_ready.l0 (k + 1) y0 y1 y2))
  | 0 => fun _ _ _ r h => by simp [affluxlaw22_ready.l0] at h
  | k + 1 => by
    have ih0 := affluxlaw22_ready.mono_l k
    · intro y0 y1 y2
      unfold affluxlaw22_ready.l0
      repeat' first
      | (with_reducible exact ih0 _ _ _)
      | (with_reducible exact affluxlaw22_clash.mono _ _ _)
      | (with_reducible exact LeO.refl _)
      | (with_reducible exact LeO.none _)
      | (with_reducible refine LeO.ite ?_ ?_)
      | (with_reducible refine LeO.bind ?_ (fun _ => ?_))
      | exact ih0 _ _ _
      | exact affluxlaw22_clash.mono _ _ _
      | exact LeO.none _
      | refine LeO.ite ?_ ?_
      | refine LeO.bind ?_ (fun _ => ?_)
theorem affluxlaw22_ready.mono : ∀ a0 a1 k, LeO (affluxlaw22_ready.f k a0 a1) (affluxlaw22_ready.f (k + 1) a0 a1) := by
  intro a0 a1 k
  have ih0 := affluxlaw22_ready.mono_l k
  unfold affluxlaw22_ready.f
  repeat' first
      | (with_reducible exact ih0 _ _ _)
      | (with_reducible exact affluxlaw22_clash.mono _ _ _)
      | (with_reducible exact LeO.refl _)
      | (with_reducible exact LeO.none _)
      | (with_reducible refine LeO.ite ?_ ?_)
      | (with_reducible refine LeO.bind ?_ (fun _ => ?_))
      | exact ih0 _ _ _
      | exact affluxlaw22_clash.mono _ _ _
      | exact LeO.none _
      | refine LeO.ite ?_ ?_
      | refine LeO.bind ?_ (fun _ => ?_)
set_option maxHeartbeats 8000000 in
set_option maxRecDepth 100000 in
theorem affluxlaw22_ready.calls (k : Nat) (A0 : Option Addr) (c0 : Nat) (l0 : List (S55)) (a1 : Int) (r : Bool) (w : World) (hr0 : Kd.C k55 w A0 l0.length l0) (hc0 : l0.length ≤ c0) (h : affluxlaw22_ready.f k l0 a1 = some r) :
    Calls Try.prog 27 #[.slice A0 l0.length c0, .int .i64 a1] w fun e w' => e = .returned (.bool r) ∧ Drawn0 w w' := by
  have HR0 := Aside0.mk hr0
  have HC0 := Aside0.mk hc0
  clear hr0 hc0
  have H : (affluxlaw22_ready.l0 k l0 a1 0) = some r := h
  clear h
  have H' := Aside0.mk H
  clear H
  go_enter Try.func27, Try.ntmps27
  go_wp2
  repeat (go_quiet (fail); try go_wp2)
  go_loopg [5] k (fun kq v5 w' => ∃ (x5_1 : Int), v5 = .int .i64 x5_1 ∧ Aside0 (affluxlaw22_ready.l0 kq l0 a1 x5_1 = some r) ∧ Aside0 (kq ≤ k) ∧ Drawn0 w w')
  case atStart => exact ⟨(0), (by first | rfl | (simp; done) | (simp [*]; done)), H', ⟨Nat.le_refl _⟩, by repeat (first | exact Drawn0.refl _ | apply Drawn0.step)⟩
  case round =>
    clear H'
    try clear c2
    try clear p2
    obtain ⟨x5_1, rfl, HA, HK1, ⟨m1, rfl⟩⟩ := hrel
    cases gk with
    | zero => exact absurd HA.out (by simp [affluxlaw22_ready.l0])
    | succ k1 =>
      have H := HA.out
      clear HA
      simp only [affluxlaw22_ready.l0] at H
      by_cases c3 : x5_1 < (l0.length : Int)
      · rw [if_pos c3] at H
        have c3b0 : decide (x5_1 < (l0.length : Int)) = true := decide_eq_true c3
        clear c3
        by_cases c4 : x5_1 = a1
        · rw [if_pos c4] at H
          have c4b0 : (x5_1 == a1) = true := beq_iff_eq.mpr c4
          have c4b1 : (x5_1 != a1) = false := bne_eq_false_iff_eq.mpr c4
          clear c4
          have H' := Aside0.mk H
          clear H
          go_wp2
          repeat (go_quiet (fail); try go_wp2)
          go_roundg k1
          case measure => have := HK1.out; omega
          case rel => exact ⟨(wrap64 (x5_1 + 1)), (by first | rfl | (simp; done) | (simp [*]; done)), H', ⟨by have := HK1.out; omega⟩, by repeat (first | exact Drawn0.refl _ | apply Drawn0.step)⟩
        · rw [if_neg c4] at H
          have c4b0 : (x5_1 == a1) = false := beq_eq_false_iff_ne.mpr c4
          have c4b1 : (x5_1 != a1) = true := bne_iff_ne.mpr c4
          by_cases c5 : 0 ≤ x5_1
          · rw [if_pos c5] at H
            have c5b0 : decide (0 ≤ x5_1) = true := decide_eq_true c5
            clear c5
            obtain ⟨bq6, hbq6⟩ : ∃ b_ : Bool, b_ = ((rd_T55 l0 x5_1).f2) := ⟨_, rfl⟩
            replace H : (if bq6 = true then (if 0 ≤ a1 then (if a1 < (l0.length : Int) then ((affluxlaw22_clash.f k1 ((rd_T55 l0 x5_1).f1) ((rd_T55 l0 a1).f1)).bind fun t148 => (if t148 = true then (some false) else (affluxlaw22_ready.l0 k1 l0 a1 (wrap64 (x5_1 + 1))))) else (none)) else (none)) else (if x5_1 < a1 then (if 0 ≤ a1 then (if a1 < (l0.length : Int) then ((affluxlaw22_clash.f k1 ((rd_T55 l0 x5_1).f1) ((rd_T55 l0 a1).f1)).bind fun t151 => (if t151 = true then (some false) else (affluxlaw22_ready.l0 k1 l0 a1 (wrap64 (x5_1 + 1))))) else (none)) else (none)) else (affluxlaw22_ready.l0 k1 l0 a1 (wrap64 (x5_1 + 1))))) = some r := by rw [← hbq6] at H; exact H
            have Nbq6 := Aside0.mk hbq6
            clear hbq6
            by_cases c7 : bq6 = true
            · subst c7
              have H1 : (if 0 ≤ a1 then (if a1 < (l0.length : Int) then ((affluxlaw22_clash.f k1 ((rd_T55 l0 x5_1).f1) ((rd_T55 l0 a1).f1)).bind fun t148 => (if t148 = true then (some false) else (affluxlaw22_ready.l0 k1 l0 a1 (wrap64 (x5_1 + 1))))) else (none)) else (none)) = some r := by rw [if_pos rfl] at H; exact H
              clear H
              have H := H1
              clear H1
              by_cases c8 : 0 ≤ a1
              · rw [if_pos c8] at H
                have c8b0 : decide (0 ≤ a1) = true := decide_eq_true c8
                clear c8
                by_cases c9 : a1 < (l0.length : Int)
                · rw [if_pos c9] at H
                  have c9b0 : decide (a1 < (l0.length : Int)) = true := decide_eq_true c9
                  clear c9
                  replace H := Option.bind_eq_some_iff.mp H
                  obtain ⟨t148, A100, H⟩ := H
                  replace H : (if t148 = true then (some false) else (affluxlaw22_ready.l0 k1 l0 a1 (wrap64 (x5_1 + 1)))) = some r := H
                  have A10 := Aside0.mk A100
                  clear A100
                  by_cases c11 : t148 = true
                  · subst c11
                    have H1 : (some false) = some r := by rw [if_pos rfl] at H; exact H
                    clear H
                    have H := H1
                    clear H1
                    obtain rfl := Option.some.inj H
                    have p145 : 0 ≤ (x5_1 : Int) := of_decide_eq_true (by first | (with_reducible assumption) | assumption)
                    have q145 : x5_1 < (l0.length : Int) := of_decide_eq_true (by first | (with_reducible assumption) | assumption)
                    obtain ⟨ad145, A145_1, c145_1, e145, hx145_0, hx145_1, hx145_2, hl145_1, hi145_1⟩ := at_T55 HR0.out x5_1 p145 q145
                    (try rw [← Nbq6.out] at hx145_2)
                    cases e145
                    have HR145_1 := Aside0.mk hi145_1
                    have HC145_1 := Aside0.mk hl145_1
                    clear hi145_1 hl145_1
                    replace p145 := eq_true p145
                    replace q145 := eq_true q145
                    have p146 : 0 ≤ (x5_1 : Int) := of_decide_eq_true (by first | (with_reducible assumption) | assumption)
                    have q146 : x5_1 < (l0.length : Int) := of_decide_eq_true (by first | (with_reducible assumption) | assumption)
                    obtain ⟨ad146, A146_1, c146_1, e146, hx146_0, hx146_1, hx146_2, hl146_1, hi146_1⟩ := at_T55 HR0.out x5_1 p146 q146
                    (try rw [← Nbq6.out] at hx146_2)
                    obtain rfl : ad145 = ad146 := (by injection e146)
                    have HR146_1 := Aside0.mk hi146_1
                    have HC146_1 := Aside0.mk hl146_1
                    clear hi146_1 hl146_1
                    replace p146 := eq_true p146
                    replace q146 := eq_true q146
                    have ea_ := Option.some.inj (hx145_1.symm.trans hx146_1)
                    injection ea_ with ea_ en_ ec_
                    subst ea_
                    subst ec_
                    clear en_
                    have p147 : 0 ≤ (a1 : Int) := of_decide_eq_true (by first | (with_reducible assumption) | assumption)
                    have q147 : a1 < (l0.length : Int) := of_decide_eq_true (by first | (with_reducible assumption) | assumption)
                    obtain ⟨ad147, A147_1, c147_1, e147, hx147_0, hx147_1, hx147_2, hl147_1, hi147_1⟩ := at_T55 HR0.out a1 p147 q147
                    (try rw [← Nbq6.out] at hx147_2)
                    obtain rfl : ad145 = ad147 := (by injection e147)
                    have HR147_1 := Aside0.mk hi147_1
                    have HC147_1 := Aside0.mk hl147_1
                    clear hi147_1 hl147_1
                    replace p147 := eq_true p147
                    replace q147 := eq_true q147
                    go_wp2_with (first | (go_at_call 9; (with_reducible refine (affluxlaw22_clash.calls k1 _ _ ((rd_T55 l0 x5_1).f1) _ _ ((rd_T55 l0 a1).f1) true _ ?side1 ?side2 ?side3 ?side4 A10.out).mono ?_); (case side1 => repeat (first | exact HR146_1.out | (with_reducible refine Kd.C_alloc ?_ _) | (with_reducible refine Kd.C_drewN ?_ _) | (with_reducible refine Kd.C_drew ?_))); (case side2 => exact HC146_1.out); (case side3 => repeat (first | exact HR147_1.out | (with_reducible refine Kd.C_alloc ?_ _) | (with_reducible refine Kd.C_drewN ?_ _) | (with_reducible refine Kd.C_drew ?_))); (case side4 => exact HC147_1.out); rintro e w' ⟨rfl, ⟨nd, rfl⟩⟩; (try first | exact ⟨rfl, _, World.drewN_drewN _ _ _⟩ | exact ⟨rfl, _, Eq.trans (World.drewN_drewN _ _ _) (congrArg (World.drewN _) (Nat.add_assoc _ _ _))⟩)))
                    repeat (go_quiet (first | (go_at_call 9; (with_reducible refine (affluxlaw22_clash.calls k1 _ _ ((rd_T55 l0 x5_1).f1) _ _ ((rd_T55 l0 a1).f1) true _ ?side1 ?side2 ?side3 ?side4 A10.out).mono ?_); (case side1 => repeat (first | exact HR146_1.out | (with_reducible refine Kd.C_alloc ?_ _) | (with_reducible refine Kd.C_drewN ?_ _) | (with_reducible refine Kd.C_drew ?_))); (case side2 => exact HC146_1.out); (case side3 => repeat (first | exact HR147_1.out | (with_reducible refine Kd.C_alloc ?_ _) | (with_reducible refine Kd.C_drewN ?_ _) | (with_reducible refine Kd.C_drew ?_))); (case side4 => exact HC147_1.out); rintro e w' ⟨rfl, ⟨nd, rfl⟩⟩; (try first | exact ⟨rfl, _, World.drewN_drewN _ _ _⟩ | exact ⟨rfl, _, Eq.trans (World.drewN_drewN _ _ _) (congrArg (World.drewN _) (Nat.add_assoc _ _ _))⟩))); try go_wp2_with (first | (go_at_call 9; (with_reducible refine (affluxlaw22_clash.calls k1 _ _ ((rd_T55 l0 x5_1).f1) _ _ ((rd_T55 l0 a1).f1) true _ ?side1 ?side2 ?side3 ?side4 A10.out).mono ?_); (case side1 => repeat (first | exact HR146_1.out | (with_reducible refine Kd.C_alloc ?_ _) | (with_reducible refine Kd.C_drewN ?_ _) | (with_reducible refine Kd.C_drew ?_))); (case side2 => exact HC146_1.out); (case side3 => repeat (first | exact HR147_1.out | (with_reducible refine Kd.C_alloc ?_ _) | (with_reducible refine Kd.C_drewN ?_ _) | (with_reducible refine Kd.C_drew ?_))); (case side4 => exact HC147_1.out); rintro e w' ⟨rfl, ⟨nd, rfl⟩⟩; (try first | exact ⟨rfl, _, World.drewN_drewN _ _ _⟩ | exact ⟨rfl, _, Eq.trans (World.drewN_drewN _ _ _) (congrArg (World.drewN _) (Nat.add_assoc _ _ _))⟩))))
                    go_ret
                    exact ⟨by first | rfl | (simp; done) | (simp [*]; done), by repeat (first | exact Drawn0.refl _ | apply Drawn0.step)⟩
                  · replace c11 := Bool.eq_false_iff.mpr c11
                    subst c11
                    have H1 : (affluxlaw22_ready.l0 k1 l0 a1 (wrap64 (x5_1 + 1))) = some r := by rw [if_neg (show ¬ (false = true) by decide)] at H; exact H
                    clear H
                    have H := H1
                    clear H1
                    have H' := Aside0.mk H
                    clear H
                    have p145 : 0 ≤ (x5_1 : Int) := of_decide_eq_true (by first | (with_reducible assumption) | assumption)
                    have q145 : x5_1 < (l0.length : Int) := of_decide_eq_true (by first | (with_reducible assumption) | assumption)
                    obtain ⟨ad145, A145_1, c145_1, e145, hx145_0, hx145_1, hx145_2, hl145_1, hi145_1⟩ := at_T55 HR0.out x5_1 p145 q145
                    (try rw [← Nbq6.out] at hx145_2)
                    cases e145
                    have HR145_1 := Aside0.mk hi145_1
                    have HC145_1 := Aside0.mk hl145_1
                    clear hi145_1 hl145_1
                    replace p145 := eq_true p145
                    replace q145 := eq_true q145
                    have p146 : 0 ≤ (x5_1 : Int) := of_decide_eq_true (by first | (with_reducible assumption) | assumption)
                    have q146 : x5_1 < (l0.length : Int) := of_decide_eq_true (by first | (with_reducible assumption) | assumption)
                    obtain ⟨ad146, A146_1, c146_1, e146, hx146_0, hx146_1, hx146_2, hl146_1, hi146_1⟩ := at_T55 HR0.out x5_1 p146 q146
                    (try rw [← Nbq6.out] at hx146_2)
                    obtain rfl : ad145 = ad146 := (by injection e146)
                    have HR146_1 := Aside0.mk hi146_1
                    have HC146_1 := Aside0.mk hl146_1
                    clear hi146_1 hl146_1
                    replace p146 := eq_true p146
                    replace q146 := eq_true q146
                    have ea_ := Option.some.inj (hx145_1.symm.trans hx146_1)
                    injection ea_ with ea_ en_ ec_
                    subst ea_
                    subst ec_
                    clear en_
                    have p147 : 0 ≤ (a1 : Int) := of_decide_eq_true (by first | (with_reducible assumption) | assumption)
                    have q147 : a1 < (l0.length : Int) := of_decide_eq_true (by first | (with_reducible assumption) | assumption)
                    obtain ⟨ad147, A147_1, c147_1, e147, hx147_0, hx147_1, hx147_2, hl147_1, hi147_1⟩ := at_T55 HR0.out a1 p147 q147
                    (try rw [← Nbq6.out] at hx147_2)
                    obtain rfl : ad145 = ad147 := (by injection e147)
                    have HR147_1 := Aside0.mk hi147_1
                    have HC147_1 := Aside0.mk hl147_1
                    clear hi147_1 hl147_1
                    replace p147 := eq_true p147
                    replace q147 := eq_true q147
                    go_wp2_with (first | (go_at_call 9; (with_reducible refine (affluxlaw22_clash.calls k1 _ _ ((rd_T55 l0 x5_1).f1) _ _ ((rd_T55 l0 a1).f1) false _ ?side1 ?side2 ?side3 ?side4 A10.out).mono ?_); (case side1 => repeat (first | exact HR146_1.out | (with_reducible refine Kd.C_alloc ?_ _) | (with_reducible refine Kd.C_drewN ?_ _) | (with_reducible refine Kd.C_drew ?_))); (case side2 => exact HC146_1.out); (case side3 => repeat (first | exact HR147_1.out | (with_reducible refine Kd.C_alloc ?_ _) | (with_reducible refine Kd.C_drewN ?_ _) | (with_reducible refine Kd.C_drew ?_))); (case side4 => exact HC147_1.out); rintro e w' ⟨rfl, ⟨nd, rfl⟩⟩; (try first | exact ⟨rfl, _, World.drewN_drewN _ _ _⟩ | exact ⟨rfl, _, Eq.trans (World.drewN_drewN _ _ _) (congrArg (World.drewN _) (Nat.add_assoc _ _ _))⟩)))
                    repeat (go_quiet (first | (go_at_call 9; (with_reducible refine (affluxlaw22_clash.calls k1 _ _ ((rd_T55 l0 x5_1).f1) _ _ ((rd_T55 l0 a1).f1) false _ ?side1 ?side2 ?side3 ?side4 A10.out).mono ?_); (case side1 => repeat (first | exact HR146_1.out | (with_reducible refine Kd.C_alloc ?_ _) | (with_reducible refine Kd.C_drewN ?_ _) | (with_reducible refine Kd.C_drew ?_))); (case side2 => exact HC146_1.out); (case side3 => repeat (first | exact HR147_1.out | (with_reducible refine Kd.C_alloc ?_ _) | (with_reducible refine Kd.C_drewN ?_ _) | (with_reducible refine Kd.C_drew ?_))); (case side4 => exact HC147_1.out); rintro e w' ⟨rfl, ⟨nd, rfl⟩⟩; (try first | exact ⟨rfl, _, World.drewN_drewN _ _ _⟩ | exact ⟨rfl, _, Eq.trans (World.drewN_drewN _ _ _) (congrArg (World.drewN _) (Nat.add_assoc _ _ _))⟩))); try go_wp2_with (first | (go_at_call 9; (with_reducible refine (affluxlaw22_clash.calls k1 _ _ ((rd_T55 l0 x5_1).f1) _ _ ((rd_T55 l0 a1).f1) false _ ?side1 ?side2 ?side3 ?side4 A10.out).mono ?_); (case side1 => repeat (first | exact HR146_1.out | (with_reducible refine Kd.C_alloc ?_ _) | (with_reducible refine Kd.C_drewN ?_ _) | (with_reducible refine Kd.C_drew ?_))); (case side2 => exact HC146_1.out); (case side3 => repeat (first | exact HR147_1.out | (with_reducible refine Kd.C_alloc ?_ _) | (with_reducible refine Kd.C_drewN ?_ _) | (with_reducible refine Kd.C_drew ?_))); (case side4 => exact HC147_1.out); rintro e w' ⟨rfl, ⟨nd, rfl⟩⟩; (try first | exact ⟨rfl, _, World.drewN_drewN _ _ _⟩ | exact ⟨rfl, _, Eq.trans (World.drewN_drewN _ _ _) (congrArg (World.drewN _) (Nat.add_assoc _ _ _))⟩))))
                    go_roundg k1
                    case measure => have := HK1.out; omega
                    case rel => exact ⟨(wrap64 (x5_1 + 1)), (by first | rfl | (simp; done) | (simp [*]; done)), H', ⟨by have := HK1.out; omega⟩, by repeat (first | exact Drawn0.refl _ | apply Drawn0.step)⟩
                · rw [if_neg c9] at H
                  exact absurd H (by simp)
              · rw [if_neg c8] at H
                exact absurd H (by simp)
            · replace c7 := Bool.eq_false_iff.mpr c7
              subst c7
              have H1 : (if x5_1 < a1 then (if 0 ≤ a1 then (if a1 < (l0.length : Int) then ((affluxlaw22_clash.f k1 ((rd_T55 l0 x5_1).f1) ((rd_T55 l0 a1).f1)).bind fun t151 => (if t151 = true then (some false) else (affluxlaw22_ready.l0 k1 l0 a1 (wrap64 (x5_1 + 1))))) else (none)) else (none)) else (affluxlaw22_ready.l0 k1 l0 a1 (wrap64 (x5_1 + 1)))) = some r := by rw [if_neg (show ¬ (false = true) by decide)] at H; exact H
              clear H
              have H := H1
              clear H1
              by_cases c12 : x5_1 < a1
              · rw [if_pos c12] at H
                have c12b0 : decide (x5_1 < a1) = true := decide_eq_true c12
                clear c12
                by_cases c13 : 0 ≤ a1
                · rw [if_pos c13] at H
                  have c13b0 : decide (0 ≤ a1) = true := decide_eq_true c13
                  clear c13
                  by_cases c14 : a1 < (l0.length : Int)
                  · rw [if_pos c14] at H
                    have c14b0 : decide (a1 < (l0.length : Int)) = true := decide_eq_true c14
                    clear c14
                    replace H := Option.bind_eq_some_iff.mp H
                    obtain ⟨t151, A150, H⟩ := H
                    replace H : (if t151 = true then (some false) else (affluxlaw22_ready.l0 k1 l0 a1 (wrap64 (x5_1 + 1)))) = some r := H
                    have A15 := Aside0.mk A150
                    clear A150
                    by_cases c16 : t151 = true
                    · subst c16
                      have H1 : (some false) = some r := by rw [if_pos rfl] at H; exact H
                      clear H
                      have H := H1
                      clear H1
                      obtain rfl := Option.some.inj H
                      have p145 : 0 ≤ (x5_1 : Int) := of_decide_eq_true (by first | (with_reducible assumption) | assumption)
                      have q145 : x5_1 < (l0.length : Int) := of_decide_eq_true (by first | (with_reducible assumption) | assumption)
                      obtain ⟨ad145, A145_1, c145_1, e145, hx145_0, hx145_1, hx145_2, hl145_1, hi145_1⟩ := at_T55 HR0.out x5_1 p145 q145
                      (try rw [← Nbq6.out] at hx145_2)
                      cases e145
                      have HR145_1 := Aside0.mk hi145_1
                      have HC145_1 := Aside0.mk hl145_1
                      clear hi145_1 hl145_1
                      replace p145 := eq_true p145
                      replace q145 := eq_true q145
                      have p149 : 0 ≤ (x5_1 : Int) := of_decide_eq_true (by first | (with_reducible assumption) | assumption)
                      have q149 : x5_1 < (l0.length : Int) := of_decide_eq_true (by first | (with_reducible assumption) | assumption)
                      obtain ⟨ad149, A149_1, c149_1, e149, hx149_0, hx149_1, hx149_2, hl149_1, hi149_1⟩ := at_T55 HR0.out x5_1 p149 q149
                      (try rw [← Nbq6.out] at hx149_2)
                      obtain rfl : ad145 = ad149 := (by injection e149)
                      have HR149_1 := Aside0.mk hi149_1
                      have HC149_1 := Aside0.mk hl149_1
                      clear hi149_1 hl149_1
                      replace p149 := eq_true p149
                      replace q149 := eq_true q149
                      have ea_ := Option.some.inj (hx145_1.symm.trans hx149_1)
                      injection ea_ with ea_ en_ ec_
                      subst ea_
                      subst ec_
                      clear en_
                      have p150 : 0 ≤ (a1 : Int) := of_decide_eq_true (by first | (with_reducible assumption) | assumption)
                      have q150 : a1 < (l0.length : Int) := of_decide_eq_true (by first | (with_reducible assumption) | assumption)
                      obtain ⟨ad150, A150_1, c150_1, e150, hx150_0, hx150_1, hx150_2, hl150_1, hi150_1⟩ := at_T55 HR0.out a1 p150 q150
                      (try rw [← Nbq6.out] at hx150_2)
                      obtain rfl : ad145 = ad150 := (by injection e150)
                      have HR150_1 := Aside0.mk hi150_1
                      have HC150_1 := Aside0.mk hl150_1
                      clear hi150_1 hl150_1
                      replace p150 := eq_true p150
                      replace q150 := eq_true q150
                      go_wp2_with (first | (go_at_call 9; (with_reducible refine (affluxlaw22_clash.calls k1 _ _ ((rd_T55 l0 x5_1).f1) _ _ ((rd_T55 l0 a1).f1) true _ ?side1 ?side2 ?side3 ?side4 A15.out).mono ?_); (case side1 => repeat (first | exact HR149_1.out | (with_reducible refine Kd.C_alloc ?_ _) | (with_reducible refine Kd.C_drewN ?_ _) | (with_reducible refine Kd.C_drew ?_))); (case side2 => exact HC149_1.out); (case side3 => repeat (first | exact HR150_1.out | (with_reducible refine Kd.C_alloc ?_ _) | (with_reducible refine Kd.C_drewN ?_ _) | (with_reducible refine Kd.C_drew ?_))); (case side4 => exact HC150_1.out); rintro e w' ⟨rfl, ⟨nd, rfl⟩⟩; (try first | exact ⟨rfl, _, World.drewN_drewN _ _ _⟩ | exact ⟨rfl, _, Eq.trans (World.drewN_drewN _ _ _) (congrArg (World.drewN _) (Nat.add_assoc _ _ _))⟩)))
                      repeat (go_quiet (first | (go_at_call 9; (with_reducible refine (affluxlaw22_clash.calls k1 _ _ ((rd_T55 l0 x5_1).f1) _ _ ((rd_T55 l0 a1).f1) true _ ?side1 ?side2 ?side3 ?side4 A15.out).mono ?_); (case side1 => repeat (first | exact HR149_1.out | (with_reducible refine Kd.C_alloc ?_ _) | (with_reducible refine Kd.C_drewN ?_ _) | (with_reducible refine Kd.C_drew ?_))); (case side2 => exact HC149_1.out); (case side3 => repeat (first | exact HR150_1.out | (with_reducible refine Kd.C_alloc ?_ _) | (with_reducible refine Kd.C_drewN ?_ _) | (with_reducible refine Kd.C_drew ?_))); (case side4 => exact HC150_1.out); rintro e w' ⟨rfl, ⟨nd, rfl⟩⟩; (try first | exact ⟨rfl, _, World.drewN_drewN _ _ _⟩ | exact ⟨rfl, _, Eq.trans (World.drewN_drewN _ _ _) (congrArg (World.drewN _) (Nat.add_assoc _ _ _))⟩))); try go_wp2_with (first | (go_at_call 9; (with_reducible refine (affluxlaw22_clash.calls k1 _ _ ((rd_T55 l0 x5_1).f1) _ _ ((rd_T55 l0 a1).f1) true _ ?side1 ?side2 ?side3 ?side4 A15.out).mono ?_); (case side1 => repeat (first | exact HR149_1.out | (with_reducible refine Kd.C_alloc ?_ _) | (with_reducible refine Kd.C_drewN ?_ _) | (with_reducible refine Kd.C_drew ?_))); (case side2 => exact HC149_1.out); (case side3 => repeat (first | exact HR150_1.out | (with_reducible refine Kd.C_alloc ?_ _) | (with_reducible refine Kd.C_drewN ?_ _) | (with_reducible refine Kd.C_drew ?_))); (case side4 => exact HC150_1.out); rintro e w' ⟨rfl, ⟨nd, rfl⟩⟩; (try first | exact ⟨rfl, _, World.drewN_drewN _ _ _⟩ | exact ⟨rfl, _, Eq.trans (World.drewN_drewN _ _ _) (congrArg (World.drewN _) (Nat.add_assoc _ _ _))⟩))))
                      go_ret
                      exact ⟨by first | rfl | (simp; done) | (simp [*]; done), by repeat (first | exact Drawn0.refl _ | apply Drawn0.step)⟩
                    · replace c16 := Bool.eq_false_iff.mpr c16
                      subst c16
                      have H1 : (affluxlaw22_ready.l0 k1 l0 a1 (wrap64 (x5_1 + 1))) = some r := by rw [if_neg (show ¬ (false = true) by decide)] at H; exact H
                      clear H
                      have H := H1
                      clear H1
                      have H' := Aside0.mk H
                      clear H
                      have p145 : 0 ≤ (x5_1 : Int) := of_decide_eq_true (by first | (with_reducible assumption) | assumption)
                      have q145 : x5_1 < (l0.length : Int) := of_decide_eq_true (by first | (with_reducible assumption) | assumption)
                      obtain ⟨ad145, A145_1, c145_1, e145, hx145_0, hx145_1, hx145_2, hl145_1, hi145_1⟩ := at_T55 HR0.out x5_1 p145 q145
                      (try rw [← Nbq6.out] at hx145_2)
                      cases e145
                      have HR145_1 := Aside0.mk hi145_1
                      have HC145_1 := Aside0.mk hl145_1
                      clear hi145_1 hl145_1
                      replace p145 := eq_true p145
                      replace q145 := eq_true q145
                      have p149 : 0 ≤ (x5_1 : Int) := of_decide_eq_true (by first | (with_reducible assumption) | assumption)
                      have q149 : x5_1 < (l0.length : Int) := of_decide_eq_true (by first | (with_reducible assumption) | assumption)
                      obtain ⟨ad149, A149_1, c149_1, e149, hx149_0, hx149_1, hx149_2, hl149_1, hi149_1⟩ := at_T55 HR0.out x5_1 p149 q149
                      (try rw [← Nbq6.out] at hx149_2)
                      obtain rfl : ad145 = ad149 := (by injection e149)
                      have HR149_1 := Aside0.mk hi149_1
                      have HC149_1 := Aside0.mk hl149_1
                      clear hi149_1 hl149_1
                      replace p149 := eq_true p149
                      replace q149 := eq_true q149
                      have ea_ := Option.some.inj (hx145_1.symm.trans hx149_1)
                      injection ea_ with ea_ en_ ec_
                      subst ea_
                      subst ec_
                      clear en_
                      have p150 : 0 ≤ (a1 : Int) := of_decide_eq_true (by first | (with_reducible assumption) | assumption)
                      have q150 : a1 < (l0.length : Int) := of_decide_eq_true (by first | (with_reducible assumption) | assumption)
                      obtain ⟨ad150, A150_1, c150_1, e150, hx150_0, hx150_1, hx150_2, hl150_1, hi150_1⟩ := at_T55 HR0.out a1 p150 q150
                      (try rw [← Nbq6.out] at hx150_2)
                      obtain rfl : ad145 = ad150 := (by injection e150)
                      have HR150_1 := Aside0.mk hi150_1
                      have HC150_1 := Aside0.mk hl150_1
                      clear hi150_1 hl150_1
                      replace p150 := eq_true p150
                      replace q150 := eq_true q150
                      go_wp2_with (first | (go_at_call 9; (with_reducible refine (affluxlaw22_clash.calls k1 _ _ ((rd_T55 l0 x5_1).f1) _ _ ((rd_T55 l0 a1).f1) false _ ?side1 ?side2 ?side3 ?side4 A15.out).mono ?_); (case side1 => repeat (first | exact HR149_1.out | (with_reducible refine Kd.C_alloc ?_ _) | (with_reducible refine Kd.C_drewN ?_ _) | (with_reducible refine Kd.C_drew ?_))); (case side2 => exact HC149_1.out); (case side3 => repeat (first | exact HR150_1.out | (with_reducible refine Kd.C_alloc ?_ _) | (with_reducible refine Kd.C_drewN ?_ _) | (with_reducible refine Kd.C_drew ?_))); (case side4 => exact HC150_1.out); rintro e w' ⟨rfl, ⟨nd, rfl⟩⟩; (try first | exact ⟨rfl, _, World.drewN_drewN _ _ _⟩ | exact ⟨rfl, _, Eq.trans (World.drewN_drewN _ _ _) (congrArg (World.drewN _) (Nat.add_assoc _ _ _))⟩)))
                      repeat (go_quiet (first | (go_at_call 9; (with_reducible refine (affluxlaw22_clash.calls k1 _ _ ((rd_T55 l0 x5_1).f1) _ _ ((rd_T55 l0 a1).f1) false _ ?side1 ?side2 ?side3 ?side4 A15.out).mono ?_); (case side1 => repeat (first | exact HR149_1.out | (with_reducible refine Kd.C_alloc ?_ _) | (with_reducible refine Kd.C_drewN ?_ _) | (with_reducible refine Kd.C_drew ?_))); (case side2 => exact HC149_1.out); (case side3 => repeat (first | exact HR150_1.out | (with_reducible refine Kd.C_alloc ?_ _) | (with_reducible refine Kd.C_drewN ?_ _) | (with_reducible refine Kd.C_drew ?_))); (case side4 => exact HC150_1.out); rintro e w' ⟨rfl, ⟨nd, rfl⟩⟩; (try first | exact ⟨rfl, _, World.drewN_drewN _ _ _⟩ | exact ⟨rfl, _, Eq.trans (World.drewN_drewN _ _ _) (congrArg (World.drewN _) (Nat.add_assoc _ _ _))⟩))); try go_wp2_with (first | (go_at_call 9; (with_reducible refine (affluxlaw22_clash.calls k1 _ _ ((rd_T55 l0 x5_1).f1) _ _ ((rd_T55 l0 a1).f1) false _ ?side1 ?side2 ?side3 ?side4 A15.out).mono ?_); (case side1 => repeat (first | exact HR149_1.out | (with_reducible refine Kd.C_alloc ?_ _) | (with_reducible refine Kd.C_drewN ?_ _) | (with_reducible refine Kd.C_drew ?_))); (case side2 => exact HC149_1.out); (case side3 => repeat (first | exact HR150_1.out | (with_reducible refine Kd.C_alloc ?_ _) | (with_reducible refine Kd.C_drewN ?_ _) | (with_reducible refine Kd.C_drew ?_))); (case side4 => exact HC150_1.out); rintro e w' ⟨rfl, ⟨nd, rfl⟩⟩; (try first | exact ⟨rfl, _, World.drewN_drewN _ _ _⟩ | exact ⟨rfl, _, Eq.trans (World.drewN_drewN _ _ _) (congrArg (World.drewN _) (Nat.add_assoc _ _ _))⟩))))
                      go_roundg k1
                      case measure => have := HK1.out; omega
                      case rel => exact ⟨(wrap64 (x5_1 + 1)), (by first | rfl | (simp; done) | (simp [*]; done)), H', ⟨by have := HK1.out; omega⟩, by repeat (first | exact Drawn0.refl _ | apply Drawn0.step)⟩
                  · rw [if_neg c14] at H
                    exact absurd H (by simp)
                · rw [if_neg c13] at H
                  exact absurd H (by simp)
              · rw [if_neg c12] at H
                have c12b0 : decide (x5_1 < a1) = false := decide_eq_false c12
                clear c12
                have H' := Aside0.mk H
                clear H
                have p145 : 0 ≤ (x5_1 : Int) := of_decide_eq_true (by first | (with_reducible assumption) | assumption)
                have q145 : x5_1 < (l0.length : Int) := of_decide_eq_true (by first | (with_reducible assumption) | assumption)
                obtain ⟨ad145, A145_1, c145_1, e145, hx145_0, hx145_1, hx145_2, hl145_1, hi145_1⟩ := at_T55 HR0.out x5_1 p145 q145
                (try rw [← Nbq6.out] at hx145_2)
                cases e145
                have HR145_1 := Aside0.mk hi145_1
                have HC145_1 := Aside0.mk hl145_1
                clear hi145_1 hl145_1
                replace p145 := eq_true p145
                replace q145 := eq_true q145
                go_wp2
                repeat (go_quiet (fail); try go_wp2)
                go_roundg k1
                case measure => have := HK1.out; omega
                case rel => exact ⟨(wrap64 (x5_1 + 1)), (by first | rfl | (simp; done) | (simp [*]; done)), H', ⟨by have := HK1.out; omega⟩, by repeat (first | exact Drawn0.refl _ | apply Drawn0.step)⟩
          · rw [if_neg c5] at H
            exact absurd H (by simp)
      · rw [if_neg c3] at H
        have c3b0 : decide (x5_1 < (l0.length : Int)) = false := decide_eq_false c3
        clear c3
        by_cases c17 : 0 ≤ a1
        · rw [if_pos c17] at H
          have c17b0 : decide (0 ≤ a1) = true := decide_eq_true c17
          clear c17
          by_cases c18 : a1 < (l0.length : Int)
          · rw [if_pos c18] at H
            have c18b0 : decide (a1 < (l0.length : Int)) = true := decide_eq_true c18
            clear c18
            obtain rfl := Option.some.inj H
            have p152 : 0 ≤ (a1 : Int) := of_decide_eq_true (by first | (with_reducible assumption) | assumption)
            have q152 : a1 < (l0.length : Int) := of_decide_eq_true (by first | (with_reducible assumption) | assumption)
            obtain ⟨ad152, A152_1, c152_1, e152, hx152_0, hx152_1, hx152_2, hl152_1, hi152_1⟩ := at_T55 HR0.out a1 p152 q152
            cases e152
            have HR152_1 := Aside0.mk hi152_1
            have HC152_1 := Aside0.mk hl152_1
            clear hi152_1 hl152_1
            replace p152 := eq_true p152
            replace q152 := eq_true q152
            go_wp2
            repeat (go_quiet (fail); try go_wp2)
            go_ret
            exact ⟨by first | rfl | (simp; done) | (simp [*]; done), by repeat (first | exact Drawn0.refl _ | apply Drawn0.step)⟩
          · rw [if_neg c18] at H
            exact absurd H (by simp)
        · rw [if_neg c17] at H
          exact absurd H (by simp)

-- NOT PRINTED: function 14 (affluxlaw22_does)

/-! ### cmp_isNaN_int: function 64 -/
def cmp_isNaN_int.f (a0 : Int) : Option (Bool) := some (a0 != a0)
set_option maxHeartbeats 8000000 in
set_option maxRecDepth 100000 in
theorem cmp_isNaN_int.calls (a0 : Int) (r : Bool) (w : World) (h : cmp_isNaN_int.f a0 = some r) :
    Calls Try.prog 64 #[.int .i64 a0] w fun e w' => e = .returned (.bool r) ∧ Drawn0 w w' := by
  have H : (some (a0 != a0)) = some r := h
  clear h
  obtain rfl := Option.some.inj H
  go_enter Try.func64, Try.ntmps64
  go_wp2
  go_ret
  exact ⟨by first | rfl | (simp; done) | (simp [*]; done), by repeat (first | exact Drawn0.refl _ | apply Drawn0.step)⟩

/-! ### cmp_Less_int: function 53 -/
def cmp_Less_int.f (a0 : Int) (a1 : Int) : Option (Bool) := (cmp_isNaN_int.f a0).bind fun t160 => (if t160 = true then ((cmp_isNaN_int.f a1).bind fun t161 => (if t161 = true then (some (decide (a0 < a1))) else (some true))) else (some (decide (a0 < a1))))
set_option maxHeartbeats 8000000 in
set_option maxRecDepth 100000 in
theorem cmp_Less_int.calls (a0 : Int) (a1 : Int) (r : Bool) (w : World) (h : cmp_Less_int.f a0 a1 = some r) :
    Calls Try.prog 53 #[.int .i64 a0, .int .i64 a1] w fun e w' => e = .returned (.bool r) ∧ Drawn0 w w' := by
  have H : ((cmp_isNaN_int.f a0).bind fun t160 => (if t160 = true then ((cmp_isNaN_int.f a1).bind fun t161 => (if t161 = true then (some (decide (a0 < a1))) else (some true))) else (some (decide (a0 < a1))))) = some r := h
  clear h
  replace H := Option.bind_eq_some_iff.mp H
  obtain ⟨t160, A30, H⟩ := H
  replace H : (if t160 = true then ((cmp_isNaN_int.f a1).bind fun t161 => (if t161 = true then (some (decide (a0 < a1))) else (some true))) else (some (decide (a0 < a1)))) = some r := H
  have A3 := Aside0.mk A30
  clear A30
  by_cases c4 : t160 = true
  · subst c4
    have H1 : ((cmp_isNaN_int.f a1).bind fun t161 => (if t161 = true then (some (decide (a0 < a1))) else (some true))) = some r := by rw [if_pos rfl] at H; exact H
    clear H
    have H := H1
    clear H1
    replace H := Option.bind_eq_some_iff.mp H
    obtain ⟨t161, A50, H⟩ := H
    replace H : (if t161 = true then (some (decide (a0 < a1))) else (some true)) = some r := H
    have A5 := Aside0.mk A50
    clear A50
    by_cases c6 : t161 = true
    · subst c6
      have H1 : (some (decide (a0 < a1))) = some r := by rw [if_pos rfl] at H; exact H
      clear H
      have H := H1
      clear H1
      obtain rfl := Option.some.inj H
      go_enter Try.func53, Try.ntmps53
      go_wp2_with (first | ((with_reducible refine gate_callee (f := 64) rfl ?_); refine goesL_ (some 6) rfl rfl Try.func64 (by kernel_rfl) rfl #[.int .i64 a0] rfl (by (try simp only [List.map_toArray, List.map_cons, List.map_nil]); first | done | rfl | (simp only [List.length_drop, List.length_take, Int.toNat_natCast] <;> rfl)) ?_; (with_reducible refine (cmp_isNaN_int.calls a0 true _ A3.out).mono ?_); rintro e w' ⟨rfl, ⟨nd, rfl⟩⟩; refine ⟨_, rfl, ?_⟩) | (go_at_call 64; (with_reducible refine (cmp_isNaN_int.calls a1 true _ A5.out).mono ?_); rintro e w' ⟨rfl, ⟨nd, rfl⟩⟩))
      go_ret
      exact ⟨by first | rfl | (simp; done) | (simp [*]; done), by repeat (first | exact Drawn0.refl _ | apply Drawn0.step)⟩
    · replace c6 := Bool.eq_false_iff.mpr c6
      subst c6
      have H1 : (some true) = some r := by rw [if_neg (show ¬ (false = true) by decide)] at H; exact H
      clear H
      have H := H1
      clear H1
      obtain rfl := Option.some.inj H
      go_enter Try.func53, Try.ntmps53
      go_wp2_with (first | ((with_reducible refine gate_callee (f := 64) rfl ?_); refine goesL_ (some 6) rfl rfl Try.func64 (by kernel_rfl) rfl #[.int .i64 a0] rfl (by (try simp only [List.map_toArray, List.map_cons, List.map_nil]); first | done | rfl | (simp only [List.length_drop, List.length_take, Int.toNat_natCast] <;> rfl)) ?_; (with_reducible refine (cmp_isNaN_int.calls a0 true _ A3.out).mono ?_); rintro e w' ⟨rfl, ⟨nd, rfl⟩⟩; refine ⟨_, rfl, ?_⟩) | (go_at_call 64; (with_reducible refine (cmp_isNaN_int.calls a1 false _ A5.out).mono ?_); rintro e w' ⟨rfl, ⟨nd, rfl⟩⟩))
      go_ret
      exact ⟨by first | rfl | (simp; done) | (simp [*]; done), by repeat (first | exact Drawn0.refl _ | apply Drawn0.step)⟩
  · replace c4 := Bool.eq_false_iff.mpr c4
    subst c4
    have H1 : (some (decide (a0 < a1))) = some r := by rw [if_neg (show ¬ (false = true) by decide)] at H; exact H
    clear H
    have H := H1
    clear H1
    obtain rfl := Option.some.inj H
    go_enter Try.func53, Try.ntmps53
    go_wp2_with (first | ((with_reducible refine gate_callee (f := 64) rfl ?_); refine goesL_ (some 6) rfl rfl Try.func64 (by kernel_rfl) rfl #[.int .i64 a0] rfl (by (try simp only [List.map_toArray, List.map_cons, List.map_nil]); first | done | rfl | (simp only [List.length_drop, List.length_take, Int.toNat_natCast] <;> rfl)) ?_; (with_reducible refine (cmp_isNaN_int.calls a0 false _ A3.out).mono ?_); rintro e w' ⟨rfl, ⟨nd, rfl⟩⟩; refine ⟨_, rfl, ?_⟩))
    go_ret
    exact ⟨by first | rfl | (simp; done) | (simp [*]; done), by repeat (first | exact Drawn0.refl _ | apply Drawn0.step)⟩

end Go.Proofs.Ytbpadimcnamdpaa.PK
