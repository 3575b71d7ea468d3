-- Written by a program of this repo (wip/pp.py) out of the translation, for this claim.
import Derived.Test.YtihlacambdfmfaaPRx0
namespace Go.Proofs.Ytihlacambdfmfaa.PR
open Go.RowKit Go.Proofs.YtihlacambdfmfaaW.PrintWords Go.Proofs.YtihlacambdfmfaaW.PrintLast Go.Proofs.YtihlacambdfmfaaW.PrintMore
attribute [local go_sem] max2_int min2_int max_two min_two max_three min_three max_four min_four   -- for this text's walks alone
set_option linter.unusedVariables false
set_option linter.unusedSimpArgs false

/-! ### affluxref05_Same: function 12 -/
def affluxref05_Same.l0 : Nat → List ByteArray → List ByteArray → Int → Option (Bool)
  | 0, _, _, _ => none
  | k + 1, x0, x1, x5 => if x5 < (x0.length : Int) then (if 0 ≤ x5 then (if x5 < (x1.length : Int) then (if (rdOf ByteArray.empty x0 x5).toList = (rdOf ByteArray.empty x1 x5).toList then (affluxref05_Same.l0 k x0 x1 (wrap64 (x5 + 1))) else (some false)) else (none)) else (none)) else (some true)
def affluxref05_Same.f (k : Nat) (l0 : List ByteArray) (l1 : List ByteArray) : Option (Bool) := if (l0.length : Int) = (l1.length : Int) then (affluxref05_Same.l0 k l0 l1 0) else (some false)
theorem affluxref05_Same.mono_l : ∀ k, (∀ y0 y1 y2, LeO (affluxref05_Same.l0 k y0 y1 y2) (affluxref05_Same.l0 (k + 1) y0 y1 y2))
  | 0 => fun _ _ _ r h => by simp [affluxref05_Same.l0] at h
  | k + 1 => by
    have ih0 := affluxref05_Same.mono_l k
    · intro y0 y1 y2
      unfold affluxref05_Same.l0
      repeat' first
      | (with_reducible exact ih0 _ _ _)
      | (with_reducible exact LeO.refl _)
      | (with_reducible exact LeO.none _)
      | (with_reducible refine LeO.ite ?_ ?_)
      | (with_reducible refine LeO.bind ?_ (fun _ => ?_))
      | exact ih0 _ _ _
      | exact LeO.none _
      | refine LeO.ite ?_ ?_
      | refine LeO.bind ?_ (fun _ => ?_)
theorem affluxref05_Same.mono : ∀ a0 a1 k, LeO (affluxref05_Same.f k a0 a1) (affluxref05_Same.f (k + 1) a0 a1) := by
  intro a0 a1 k
  have ih0 := affluxref05_Same.mono_l k
  unfold affluxref05_Same.f
  repeat' first
      | (with_reducible exact ih0 _ _ _)
      | (with_reducible exact LeO.refl _)
      | (with_reducible exact LeO.none _)
      | (with_reducible refine LeO.ite ?_ ?_)
      | (with_reducible refine LeO.bind ?_ (fun _ => ?_))
      | exact ih0 _ _ _
      | exact LeO.none _
      | refine LeO.ite ?_ ?_
      | refine LeO.bind ?_ (fun _ => ?_)
set_option maxHeartbeats 8000000 in
set_option maxRecDepth 100000 in
theorem affluxref05_Same.calls (k : Nat) (A0 : Option Addr) (c0 : Nat) (l0 : List ByteArray) (A1 : Option Addr) (c1 : Nat) (l1 : List ByteArray) (r : Bool) (w : World) (hr0 : Kd.C Kd.string w A0 l0.length l0) (hc0 : l0.length ≤ c0) (hr1 : Kd.C Kd.string w A1 l1.length l1) (hc1 : l1.length ≤ c1) (h : affluxref05_Same.f k l0 l1 = some r) :
    Calls Try.prog 12 #[.slice A0 l0.length c0, .slice A1 l1.length c1] w fun e w' => e = .returned (.bool r) ∧ Drawn0 w w' := by
  have HR0 := Aside0.mk hr0
  have HC0 := Aside0.mk hc0
  clear hr0 hc0
  have HR1 := Aside0.mk hr1
  have HC1 := Aside0.mk hc1
  clear hr1 hc1
  have H : (if (l0.length : Int) = (l1.length : Int) then (affluxref05_Same.l0 k l0 l1 0) else (some false)) = some r := h
  clear h
  by_cases c3 : (l0.length : Int) = (l1.length : Int)
  · rw [if_pos c3] at H
    have c3b0 : ((l0.length : Int) == (l1.length : Int)) = true := beq_iff_eq.mpr c3
    have c3b1 : ((l0.length : Int) != (l1.length : Int)) = false := bne_eq_false_iff_eq.mpr c3
    have c3b2 : (l0.length == l1.length) = true := by first | simpa using c3 | (simp at c3 ⊢; omega)
    clear c3
    have H' := Aside0.mk H
    clear H
    go_enter Try.func12, Try.ntmps12
    go_wp2
    repeat (go_quiet (fail); try go_wp2)
    go_loopg [5] k (fun kq v5 w' => ∃ (x5_1 : Int), v5 = .int .i64 x5_1 ∧ Aside0 (affluxref05_Same.l0 kq l0 l1 x5_1 = some r) ∧ Aside0 (kq ≤ k) ∧ Drawn0 w w')
    case atStart => exact ⟨(0), (by first | rfl | (simp; done) | (simp [*]; done)), H', ⟨Nat.le_refl _⟩, by repeat (first | exact Drawn0.refl _ | apply Drawn0.step)⟩
    case round =>
      clear H'
      try clear c1
      try clear p2
      try clear c3
      try clear c3b0
      try clear c3b1
      try clear c3b2
      obtain ⟨x5_1, rfl, HA, HK1, ⟨m1, rfl⟩⟩ := hrel
      cases gk with
      | zero => exact absurd HA.out (by simp [affluxref05_Same.l0])
      | succ k1 =>
        have H := HA.out
        clear HA
        simp only [affluxref05_Same.l0] at H
        by_cases c4 : x5_1 < (l0.length : Int)
        · rw [if_pos c4] at H
          have c4b0 : decide (x5_1 < (l0.length : Int)) = true := decide_eq_true c4
          clear c4
          by_cases c5 : 0 ≤ x5_1
          · rw [if_pos c5] at H
            have c5b0 : decide (0 ≤ x5_1) = true := decide_eq_true c5
            clear c5
            by_cases c6 : x5_1 < (l1.length : Int)
            · rw [if_pos c6] at H
              have c6b0 : decide (x5_1 < (l1.length : Int)) = true := decide_eq_true c6
              clear c6
              by_cases c7 : (rdOf ByteArray.empty l0 x5_1).toList = (rdOf ByteArray.empty l1 x5_1).toList
              · rw [if_pos c7] at H
                have c7b0 : ((rdOf ByteArray.empty l0 x5_1).toList == (rdOf ByteArray.empty l1 x5_1).toList) = true := beq_iff_eq.mpr c7
                have c7b1 : ((rdOf ByteArray.empty l0 x5_1).toList != (rdOf ByteArray.empty l1 x5_1).toList) = false := bne_eq_false_iff_eq.mpr c7
                clear c7
                have H' := Aside0.mk H
                clear H
                have p101 : 0 ≤ (x5_1 : Int) := of_decide_eq_true (by first | (with_reducible assumption) | assumption)
                have q101 : x5_1 < (l0.length : Int) := of_decide_eq_true (by first | (with_reducible assumption) | assumption)
                obtain ⟨ad101, e101, hx101_0⟩ := Kd.at_string HR0.out x5_1 p101 q101
                cases e101
                replace p101 := eq_true p101
                replace q101 := eq_true q101
                have p102 : 0 ≤ (x5_1 : Int) := of_decide_eq_true (by first | (with_reducible assumption) | assumption)
                have q102 : x5_1 < (l1.length : Int) := of_decide_eq_true (by first | (with_reducible assumption) | assumption)
                obtain ⟨ad102, e102, hx102_0⟩ := Kd.at_string HR1.out x5_1 p102 q102
                cases e102
                replace p102 := eq_true p102
                replace q102 := eq_true q102
                go_wp2
                repeat (go_quiet (fail); try go_wp2)
                go_roundg k1
                case measure => have := HK1.out; omega
                case rel => exact ⟨(wrap64 (x5_1 + 1)), (by first | rfl | (simp; done) | (simp [*]; done)), H', ⟨by have := HK1.out; omega⟩, by repeat (first | exact Drawn0.refl _ | apply Drawn0.step)⟩
              · rw [if_neg c7] at H
                have c7b0 : ((rdOf ByteArray.empty l0 x5_1).toList == (rdOf ByteArray.empty l1 x5_1).toList) = false := beq_eq_false_iff_ne.mpr c7
                have c7b1 : ((rdOf ByteArray.empty l0 x5_1).toList != (rdOf ByteArray.empty l1 x5_1).toList) = true := bne_iff_ne.mpr c7
                obtain rfl := Option.some.inj H
                have p101 : 0 ≤ (x5_1 : Int) := of_decide_eq_true (by first | (with_reducible assumption) | assumption)
                have q101 : x5_1 < (l0.length : Int) := of_decide_eq_true (by first | (with_reducible assumption) | assumption)
                obtain ⟨ad101, e101, hx101_0⟩ := Kd.at_string HR0.out x5_1 p101 q101
                cases e101
                replace p101 := eq_true p101
                replace q101 := eq_true q101
                have p102 : 0 ≤ (x5_1 : Int) := of_decide_eq_true (by first | (with_reducible assumption) | assumption)
                have q102 : x5_1 < (l1.length : Int) := of_decide_eq_true (by first | (with_reducible assumption) | assumption)
                obtain ⟨ad102, e102, hx102_0⟩ := Kd.at_string HR1.out x5_1 p102 q102
                cases e102
                replace p102 := eq_true p102
                replace q102 := eq_true q102
                go_wp2
                repeat (go_quiet (fail); try go_wp2)
                go_ret
                exact ⟨by first | rfl | (simp; done) | (simp [*]; done), by repeat (first | exact Drawn0.refl _ | apply Drawn0.step)⟩
            · rw [if_neg c6] at H
              exact absurd H (by simp)
          · rw [if_neg c5] at H
            exact absurd H (by simp)
        · rw [if_neg c4] at H
          have c4b0 : decide (x5_1 < (l0.length : Int)) = false := decide_eq_false c4
          clear c4
          obtain rfl := Option.some.inj H
          go_wp2
          repeat (go_quiet (fail); try go_wp2)
          go_ret
          exact ⟨by first | rfl | (simp; done) | (simp [*]; done), by repeat (first | exact Drawn0.refl _ | apply Drawn0.step)⟩
  · rw [if_neg c3] at H
    have c3b0 : ((l0.length : Int) == (l1.length : Int)) = false := beq_eq_false_iff_ne.mpr c3
    have c3b1 : ((l0.length : Int) != (l1.length : Int)) = true := bne_iff_ne.mpr c3
    have c3b2 : (l0.length == l1.length) = false := by first | simpa using c3 | (simp at c3 ⊢; omega)
    obtain rfl := Option.some.inj H
    go_enter Try.func12, Try.ntmps12
    go_wp2
    repeat (go_quiet (fail); try go_wp2)
    go_ret
    exact ⟨by first | rfl | (simp; done) | (simp [*]; done), by repeat (first | exact Drawn0.refl _ | apply Drawn0.step)⟩

/-! ### affluxlaw06_join: function 25 -/
def affluxlaw06_join.l0 : Nat → List ByteArray → ByteArray → Int → Option (ByteArray)
  | 0, _, _, _ => none
  | k + 1, x0, x3, x4 => if x4 < (x0.length : Int) then (if 0 ≤ x4 then (if x3.size + (rdOf ByteArray.empty x0 x4).size ≤ 9223372036854775807 then (affluxlaw06_join.l0 k x0 (x3 ++ (rdOf ByteArray.empty x0 x4)) (wrap64 (x4 + 1))) else (none)) else (none)) else (some x3)
def affluxlaw06_join.f (k : Nat) (l0 : List ByteArray) : Option (ByteArray) := affluxlaw06_join.l0 k l0 (⟨#[]⟩ : ByteArray) 0
theorem affluxlaw06_join.mono_l : ∀ k, (∀ y0 y1 y2, LeO (affluxlaw06_join.l0 k y0 y1 y2) (affluxlaw06_join.l0 (k + 1) y0 y1 y2))
  | 0 => fun _ _ _ r h => by simp [affluxlaw06_join.l0] at h
  | k + 1 => by
    have ih0 := affluxlaw06_join.mono_l k
    · intro y0 y1 y2
      unfold affluxlaw06_join.l0
      repeat' first
      | (with_reducible exact ih0 _ _ _)
      | (with_reducible exact LeO.refl _)
      | (with_reducible exact LeO.none _)
      | (with_reducible refine LeO.ite ?_ ?_)
      | (with_reducible refine LeO.bind ?_ (fun _ => ?_))
      | exact ih0 _ _ _
      | exact LeO.none _
      | refine LeO.ite ?_ ?_
      | refine LeO.bind ?_ (fun _ => ?_)
theorem affluxlaw06_join.mono : ∀ a0 k, LeO (affluxlaw06_join.f k a0) (affluxlaw06_join.f (k + 1) a0) := by
  intro a0 k
  have ih0 := affluxlaw06_join.mono_l k
  unfold affluxlaw06_join.f
  repeat' first
      | (with_reducible exact ih0 _ _ _)
      | (with_reducible exact LeO.refl _)
      | (with_reducible exact LeO.none _)
      | (with_reducible refine LeO.ite ?_ ?_)
      | (with_reducible refine LeO.bind ?_ (fun _ => ?_))
      | exact ih0 _ _ _
      | exact LeO.none _
      | refine LeO.ite ?_ ?_
      | refine LeO.bind ?_ (fun _ => ?_)
set_option maxHeartbeats 8000000 in
set_option maxRecDepth 100000 in
theorem affluxlaw06_join.calls (k : Nat) (A0 : Option Addr) (c0 : Nat) (l0 : List ByteArray) (r : ByteArray) (w : World) (hr0 : Kd.C Kd.string w A0 l0.length l0) (hc0 : l0.length ≤ c0) (h : affluxlaw06_join.f k l0 = some r) :
    Calls Try.prog 25 #[.slice A0 l0.length c0] w fun e w' => e = .returned (.string r) ∧ Drawn0 w w' := by
  have HR0 := Aside0.mk hr0
  have HC0 := Aside0.mk hc0
  clear hr0 hc0
  have H : (affluxlaw06_join.l0 k l0 (⟨#[]⟩ : ByteArray) 0) = some r := h
  clear h
  have H' := Aside0.mk H
  clear H
  go_enter Try.func25, Try.ntmps25
  go_wp2
  go_loopg [3, 4] k (fun kq v3 v4 w' => ∃ (x3_1 : ByteArray) (x4_1 : Int), v3 = .string x3_1 ∧ v4 = .int .i64 x4_1 ∧ Aside0 (affluxlaw06_join.l0 kq l0 x3_1 x4_1 = some r) ∧ Aside0 (kq ≤ k) ∧ Drawn0 w w')
  case atStart => exact ⟨((⟨#[]⟩ : ByteArray)), (0), (by first | rfl | (simp; done) | (simp [*]; done)), (by first | rfl | (simp; done) | (simp [*]; done)), H', ⟨Nat.le_refl _⟩, by repeat (first | exact Drawn0.refl _ | apply Drawn0.step)⟩
  case round =>
    clear H'
    obtain ⟨x3_1, x4_1, rfl, rfl, HA, HK1, ⟨m1, rfl⟩⟩ := hrel
    cases gk with
    | zero => exact absurd HA.out (by simp [affluxlaw06_join.l0])
    | succ k1 =>
      have H := HA.out
      clear HA
      simp only [affluxlaw06_join.l0] at H
      by_cases c2 : x4_1 < (l0.length : Int)
      · rw [if_pos c2] at H
        have c2b0 : decide (x4_1 < (l0.length : Int)) = true := decide_eq_true c2
        clear c2
        by_cases c3 : 0 ≤ x4_1
        · rw [if_pos c3] at H
          have c3b0 : decide (0 ≤ x4_1) = true := decide_eq_true c3
          clear c3
          by_cases c4 : x3_1.size + (rdOf ByteArray.empty l0 x4_1).size ≤ 9223372036854775807
          · rw [if_pos c4] at H
            have c4b0 := eq_true c4
            have c4b1 : decide (x3_1.size + (rdOf ByteArray.empty l0 x4_1).size ≤ 9223372036854775807) = true := decide_eq_true c4
            try have c4b2 : (9223372036854775807 < x3_1.size + (rdOf ByteArray.empty l0 x4_1).size) = False := eq_false (Nat.not_lt.2 c4)
            have H' := Aside0.mk H
            clear H
            have p103 : 0 ≤ (x4_1 : Int) := of_decide_eq_true (by first | (with_reducible assumption) | assumption)
            have q103 : x4_1 < (l0.length : Int) := of_decide_eq_true (by first | (with_reducible assumption) | assumption)
            obtain ⟨ad103, e103, hx103_0⟩ := Kd.at_string HR0.out x4_1 p103 q103
            cases e103
            replace p103 := eq_true p103
            replace q103 := eq_true q103
            go_wp2
            go_roundg k1
            case measure => have := HK1.out; omega
            case rel => exact ⟨(x3_1 ++ (rdOf ByteArray.empty l0 x4_1)), (wrap64 (x4_1 + 1)), (by first | rfl | (simp; done) | (simp [*]; done)), (by first | rfl | (simp; done) | (simp [*]; done)), H', ⟨by have := HK1.out; omega⟩, by repeat (first | exact Drawn0.refl _ | apply Drawn0.step)⟩
          · rw [if_neg c4] at H
            exact absurd H (by simp)
        · rw [if_neg c3] at H
          exact absurd H (by simp)
      · rw [if_neg c2] at H
        have c2b0 : decide (x4_1 < (l0.length : Int)) = false := decide_eq_false c2
        clear c2
        obtain rfl := Option.some.inj H
        go_wp2
        go_ret
        exact ⟨by first | rfl | (simp; done) | (simp [*]; done), by repeat (first | exact Drawn0.refl _ | apply Drawn0.step)⟩

/-! ### affluxlaw06_may: function 23 -/
def affluxlaw06_may.f (a0 : ByteArray) : Option (Bool) := if (a0.size : Int) > 0 then (some (decide ((a0.size : Int) < 21))) else (some false)
set_option maxHeartbeats 8000000 in
set_option maxRecDepth 100000 in
theorem affluxlaw06_may.calls (a0 : ByteArray) (r : Bool) (w : World) (h : affluxlaw06_may.f a0 = some r) :
    Calls Try.prog 23 #[.string a0] w fun e w' => e = .returned (.bool r) ∧ Drawn0 w w' := by
  have H : (if (a0.size : Int) > 0 then (some (decide ((a0.size : Int) < 21))) else (some false)) = some r := h
  clear h
  by_cases c2 : (a0.size : Int) > 0
  · rw [if_pos c2] at H
    have c2b0 : decide (0 < (a0.size : Int)) = true := decide_eq_true c2
    have c2b1 : decide (0 < a0.size) = true := decide_eq_true (by omega)
    clear c2
    obtain rfl := Option.some.inj H
    go_enter Try.func23, Try.ntmps23
    go_wp2
    go_ret
    exact ⟨by first | rfl | (simp; done) | (simp [*]; done), by repeat (first | exact Drawn0.refl _ | apply Drawn0.step)⟩
  · rw [if_neg c2] at H
    have c2b0 : decide (0 < (a0.size : Int)) = false := decide_eq_false c2
    have c2b1 : decide (0 < a0.size) = false := decide_eq_false (by omega)
    clear c2
    obtain rfl := Option.some.inj H
    go_enter Try.func23, Try.ntmps23
    go_wp2
    go_ret
    exact ⟨by first | rfl | (simp; done) | (simp [*]; done), by repeat (first | exact Drawn0.refl _ | apply Drawn0.step)⟩

/-! ### affluxlaw06_great: function 18 -/
mutual
def affluxlaw06_great.l0 : Nat → List (S47) → Int → Option (Bool)
  | 0, _, _ => none
  | k + 1, x0, x3 => if x3 < (x0.length : Int) then (if 0 ≤ x3 then (if (((rd_T47 x0 x3).f3).length : Int) > 10 then (affluxlaw06_great.j1 k x0 x3 true) else (if (((rd_T47 x0 x3).f1).size : Int) > 100 then (affluxlaw06_great.j1 k x0 x3 true) else (affluxlaw06_great.j1 k x0 x3 (decide ((((rd_T47 x0 x3).f2).size : Int) > 100))))) else (none)) else (some false)
def affluxlaw06_great.j1 : Nat → List (S47) → Int → Bool → Option (Bool)
  | 0, _, _, _ => none
  | k + 1, x0, x3, x38 => if x38 = true then (some true) else (affluxlaw06_great.l1 k x0 x3 0)
def affluxlaw06_great.l1 : Nat → List (S47) → Int → Int → Option (Bool)
  | 0, _, _, _ => none
  | k + 1, x0, x3, x4 => if 0 ≤ x3 then (if x3 < (x0.length : Int) then (if x4 < (((rd_T47 x0 x3).f3).length : Int) then (if 0 ≤ x4 then (if ((rdOf ByteArray.empty ((rd_T47 x0 x3).f3) x4).size : Int) > 300 then (some true) else (affluxlaw06_great.l1 k x0 x3 (wrap64 (x4 + 1)))) else (none)) else (affluxlaw06_great.l0 k x0 (wrap64 (x3 + 1)))) else (none)) else (none)
end
def affluxlaw06_great.f (k : Nat) (l0 : List (S47)) : Option (Bool) := if (l0.length : Int) > 50 then (some true) else (affluxlaw06_great.l0 k l0 0)
theorem affluxlaw06_great.mono_l : ∀ k, (∀ y0 y1, LeO (affluxlaw06_great.l0 k y0 y1) (affluxlaw06_great.l0 (k + 1) y0 y1)) ∧ (∀ y0 y1 y2, LeO (affluxlaw06_great.j1 k y0 y1 y2) (affluxlaw06_great.j1 (k + 1) y0 y1 y2)) ∧ (∀ y0 y1 y2, LeO (affluxlaw06_great.l1 k y0 y1 y2) (affluxlaw06_great.l1 (k + 1) y0 y1 y2))
  | 0 => ⟨fun _ _ r h => by simp [affluxlaw06_great.l0] at h, fun _ _ _ r h => by simp [affluxlaw06_great.j1] at h, fun _ _ _ r h => by simp [affluxlaw06_great.l1] at h⟩
  | k + 1 => by
    obtain ⟨ih0, ih1, ih2⟩ := affluxlaw06_great.mono_l k
    refine ⟨?_, ?_, ?_⟩
    · intro y0 y1
      unfold affluxlaw06_great.l0
      repeat' first
      | (with_reducible exact ih0 _ _)
      | (with_reducible exact ih1 _ _ _)
      | (with_reducible exact ih2 _ _ _)
      | (with_reducible exact LeO.refl _)
      | (with_reducible exact LeO.none _)
      | (with_reducible refine LeO.ite ?_ ?_)
      | (with_reducible refine LeO.bind ?_ (fun _ => ?_))
      | exact ih0 _ _
      | exact ih1 _ _ _
      | exact ih2 _ _ _
      | exact LeO.none _
      | refine LeO.ite ?_ ?_
      | refine LeO.bind ?_ (fun _ => ?_)
    · intro y0 y1 y2
      unfold affluxlaw06_great.j1
      repeat' first
      | (with_reducible exact ih0 _ _)
      | (with_reducible exact ih1 _ _ _)
      | (with_reducible exact ih2 _ _ _)
      | (with_reducible exact LeO.refl _)
      | (with_reducible exact LeO.none _)
      | (with_reducible refine LeO.ite ?_ ?_)
      | (with_reducible refine LeO.bind ?_ (fun _ => ?_))
      | exact ih0 _ _
      | exact ih1 _ _ _
      | exact ih2 _ _ _
      | exact LeO.none _
      | refine LeO.ite ?_ ?_
      | refine LeO.bind ?_ (fun _ => ?_)
    · intro y0 y1 y2
      unfold affluxlaw06_great.l1
      repeat' first
      | (with_reducible exact ih0 _ _)
      | (with_reducible exact ih1 _ _ _)
      | (with_reducible exact ih2 _ _ _)
      | (with_reducible exact LeO.refl _)
      | (with_reducible exact LeO.none _)
      | (with_reducible refine LeO.ite ?_ ?_)
      | (with_reducible refine LeO.bind ?_ (fun _ => ?_))
      | exact ih0 _ _
      | exact ih1 _ _ _
      | exact ih2 _ _ _
      | exact LeO.none _
      | refine LeO.ite ?_ ?_
      | refine LeO.bind ?_ (fun _ => ?_)
theorem affluxlaw06_great.mono : ∀ a0 k, LeO (affluxlaw06_great.f k a0) (affluxlaw06_great.f (k + 1) a0) := by
  intro a0 k
  obtain ⟨ih0, ih1, ih2⟩ := affluxlaw06_great.mono_l k
  unfold affluxlaw06_great.f
  repeat' first
      | (with_reducible exact ih0 _ _)
      | (with_reducible exact ih1 _ _ _)
      | (with_reducible exact ih2 _ _ _)
      | (with_reducible exact LeO.refl _)
      | (with_reducible exact LeO.none _)
      | (with_reducible refine LeO.ite ?_ ?_)
      | (with_reducible refine LeO.bind ?_ (fun _ => ?_))
      | exact ih0 _ _
      | exact ih1 _ _ _
      | exact ih2 _ _ _
      | exact LeO.none _
      | refine LeO.ite ?_ ?_
      | refine LeO.bind ?_ (fun _ => ?_)
set_option maxHeartbeats 8000000 in
set_option maxRecDepth 100000 in
theorem affluxlaw06_great.calls (k : Nat) (A0 : Option Addr) (c0 : Nat) (l0 : List (S47)) (r : Bool) (w : World) (hr0 : Kd.C k47 w A0 l0.length l0) (hc0 : l0.length ≤ c0) (h : affluxlaw06_great.f k l0 = some r) :
    Calls Try.prog 18 #[.slice A0 l0.length c0] w fun e w' => e = .returned (.bool r) ∧ Drawn0 w w' := by
  have HR0 := Aside0.mk hr0
  have HC0 := Aside0.mk hc0
  clear hr0 hc0
  have H : (if (l0.length : Int) > 50 then (some true) else (affluxlaw06_great.l0 k l0 0)) = some r := h
  clear h
  by_cases c2 : (l0.length : Int) > 50
  · rw [if_pos c2] at H
    have c2b0 : decide (50 < (l0.length : Int)) = true := decide_eq_true c2
    have c2b1 : decide (50 < l0.length) = true := decide_eq_true (by omega)
    clear c2
    obtain rfl := Option.some.inj H
    go_enter Try.func18, Try.ntmps18
    go_wp2
    go_ret
    exact ⟨by first | rfl | (simp; done) | (simp [*]; done), by repeat (first | exact Drawn0.refl _ | apply Drawn0.step)⟩
  · rw [if_neg c2] at H
    have c2b0 : decide (50 < (l0.length : Int)) = false := decide_eq_false c2
    have c2b1 : decide (50 < l0.length) = false := decide_eq_false (by omega)
    clear c2
    have H' := Aside0.mk H
    clear H
    go_enter Try.func18, Try.ntmps18
    go_wp2
    go_loopg [3] k (fun kq v3 w' => ∃ (x3_1 : Int), v3 = .int .i64 x3_1 ∧ Aside0 (affluxlaw06_great.l0 kq l0 x3_1 = some r) ∧ Aside0 (kq ≤ k) ∧ Drawn0 w w')
    case atStart => exact ⟨(0), (by first | rfl | (simp; done) | (simp [*]; done)), H', ⟨Nat.le_refl _⟩, by repeat (first | exact Drawn0.refl _ | apply Drawn0.step)⟩
    case round =>
      clear H'
      try clear c1
      try clear c2
      try clear c2b0
      try clear c2b1
      try clear p2
      obtain ⟨x3_1, rfl, HA, HK1, ⟨m1, rfl⟩⟩ := hrel
      cases gk with
      | zero => exact absurd HA.out (by simp [affluxlaw06_great.l0])
      | succ k1 =>
        have H := HA.out
        clear HA
        simp only [affluxlaw06_great.l0] at H
        by_cases c3 : x3_1 < (l0.length : Int)
        · rw [if_pos c3] at H
          have c3b0 : decide (x3_1 < (l0.length : Int)) = true := decide_eq_true c3
          clear c3
          have HC4 := Aside0.mk H
          clear H
          go_upto_region 6 with (fail)
          go_cut [38] (fun v38 wc => ∃ (kq : Nat) (x38_3 : Bool), v38 = .bool x38_3 ∧ Aside0 (affluxlaw06_great.j1 kq l0 x3_1 x38_3 = some r) ∧ Aside0 (kq ≤ k1) ∧ Drawn0 w wc)
          case first =>
            have H := HC4.out
            clear HC4
            by_cases c5 : 0 ≤ x3_1
            · rw [if_pos c5] at H
              have c5b0 : decide (0 ≤ x3_1) = true := decide_eq_true c5
              clear c5
              (first | rw [c5b0] | (simp only [i64_w, i32_w]; rw [c5b0]) | skip)
              by_cases c6 : (((rd_T47 l0 x3_1).f3).length : Int) > 10
              · rw [if_pos c6] at H
                have c6b0 : decide (10 < (((rd_T47 l0 x3_1).f3).length : Int)) = true := decide_eq_true c6
                have c6b1 : decide (10 < ((rd_T47 l0 x3_1).f3).length) = true := decide_eq_true (by omega)
                clear c6
                have H' := Aside0.mk H
                clear H
                have p104 : 0 ≤ (x3_1 : Int) := of_decide_eq_true (by first | (with_reducible assumption) | assumption)
                have q104 : x3_1 < (l0.length : Int) := of_decide_eq_true (by first | (with_reducible assumption) | assumption)
                obtain ⟨ad104, A104_3, c104_3, A104_5, c104_5, e104, hx104_0, hx104_1, hx104_2, hx104_3, hx104_4, hx104_5, hl104_3, hi104_3, hl104_5, hi104_5⟩ := at_T47 HR0.out x3_1 p104 q104
                cases e104
                have HR104_3 := Aside0.mk hi104_3
                have HC104_3 := Aside0.mk hl104_3
                clear hi104_3 hl104_3
                have HR104_5 := Aside0.mk hi104_5
                have HC104_5 := Aside0.mk hl104_5
                clear hi104_5 hl104_5
                replace p104 := eq_true p104
                replace q104 := eq_true q104
                go_wp2
                go_meet
                case rel => exact ⟨_, (true), (by first | rfl | (simp; done) | (simp [*]; done)), H', ⟨by have := HK1.out; first | omega | exact Nat.le_refl _⟩, by repeat (first | exact Drawn0.refl _ | apply Drawn0.step)⟩
              · rw [if_neg c6] at H
                have c6b0 : decide (10 < (((rd_T47 l0 x3_1).f3).length : Int)) = false := decide_eq_false c6
                have c6b1 : decide (10 < ((rd_T47 l0 x3_1).f3).length) = false := decide_eq_false (by omega)
                clear c6
                by_cases c7 : (((rd_T47 l0 x3_1).f1).size : Int) > 100
                · rw [if_pos c7] at H
                  have c7b0 : decide (100 < (((rd_T47 l0 x3_1).f1).size : Int)) = true := decide_eq_true c7
                  have c7b1 : decide (100 < ((rd_T47 l0 x3_1).f1).size) = true := decide_eq_true (by omega)
                  clear c7
                  have H' := Aside0.mk H
                  clear H
                  have p104 : 0 ≤ (x3_1 : Int) := of_decide_eq_true (by first | (with_reducible assumption) | assumption)
                  have q104 : x3_1 < (l0.length : Int) := of_decide_eq_true (by first | (with_reducible assumption) | assumption)
                  obtain ⟨ad104, A104_3, c104_3, A104_5, c104_5, e104, hx104_0, hx104_1, hx104_2, hx104_3, hx104_4, hx104_5, hl104_3, hi104_3, hl104_5, hi104_5⟩ := at_T47 HR0.out x3_1 p104 q104
                  cases e104
                  have HR104_3 := Aside0.mk hi104_3
                  have HC104_3 := Aside0.mk hl104_3
                  clear hi104_3 hl104_3
                  have HR104_5 := Aside0.mk hi104_5
                  have HC104_5 := Aside0.mk hl104_5
                  clear hi104_5 hl104_5
                  replace p104 := eq_true p104
                  replace q104 := eq_true q104
                  have p105 : 0 ≤ (x3_1 : Int) := of_decide_eq_true (by first | (with_reducible assumption) | assumption)
                  have q105 : x3_1 < (l0.length : Int) := of_decide_eq_true (by first | (with_reducible assumption) | assumption)
                  obtain ⟨ad105, A105_3, c105_3, A105_5, c105_5, e105, hx105_0, hx105_1, hx105_2, hx105_3, hx105_4, hx105_5, hl105_3, hi105_3, hl105_5, hi105_5⟩ := at_T47 HR0.out x3_1 p105 q105
                  obtain rfl : ad104 = ad105 := (by injection e105)
                  have HR105_3 := Aside0.mk hi105_3
                  have HC105_3 := Aside0.mk hl105_3
                  clear hi105_3 hl105_3
                  have HR105_5 := Aside0.mk hi105_5
                  have HC105_5 := Aside0.mk hl105_5
                  clear hi105_5 hl105_5
                  replace p105 := eq_true p105
                  replace q105 := eq_true q105
                  have ea_ := Option.some.inj (hx104_3.symm.trans hx105_3)
                  injection ea_ with ea_ en_ ec_
                  subst ea_
                  subst ec_
                  clear en_
                  have ea_ := Option.some.inj (hx104_5.symm.trans hx105_5)
                  injection ea_ with ea_ en_ ec_
                  subst ea_
                  subst ec_
                  clear en_
                  go_wp2
                  go_meet
                  case rel => exact ⟨_, (true), (by first | rfl | (simp; done) | (simp [*]; done)), H', ⟨by have := HK1.out; first | omega | exact Nat.le_refl _⟩, by repeat (first | exact Drawn0.refl _ | apply Drawn0.step)⟩
                · rw [if_neg c7] at H
                  have c7b0 : decide (100 < (((rd_T47 l0 x3_1).f1).size : Int)) = false := decide_eq_false c7
                  have c7b1 : decide (100 < ((rd_T47 l0 x3_1).f1).size) = false := decide_eq_false (by omega)
                  clear c7
                  have H' := Aside0.mk H
                  clear H
                  have p104 : 0 ≤ (x3_1 : Int) := of_decide_eq_true (by first | (with_reducible assumption) | assumption)
                  have q104 : x3_1 < (l0.length : Int) := of_decide_eq_true (by first | (with_reducible assumption) | assumption)
                  obtain ⟨ad104, A104_3, c104_3, A104_5, c104_5, e104, hx104_0, hx104_1, hx104_2, hx104_3, hx104_4, hx104_5, hl104_3, hi104_3, hl104_5, hi104_5⟩ := at_T47 HR0.out x3_1 p104 q104
                  cases e104
                  have HR104_3 := Aside0.mk hi104_3
                  have HC104_3 := Aside0.mk hl104_3
                  clear hi104_3 hl104_3
                  have HR104_5 := Aside0.mk hi104_5
                  have HC104_5 := Aside0.mk hl104_5
                  clear hi104_5 hl104_5
                  replace p104 := eq_true p104
                  replace q104 := eq_true q104
                  have p105 : 0 ≤ (x3_1 : Int) := of_decide_eq_true (by first | (with_reducible assumption) | assumption)
                  have q105 : x3_1 < (l0.length : Int) := of_decide_eq_true (by first | (with_reducible assumption) | assumption)
                  obtain ⟨ad105, A105_3, c105_3, A105_5, c105_5, e105, hx105_0, hx105_1, hx105_2, hx105_3, hx105_4, hx105_5, hl105_3, hi105_3, hl105_5, hi105_5⟩ := at_T47 HR0.out x3_1 p105 q105
                  obtain rfl : ad104 = ad105 := (by injection e105)
                  have HR105_3 := Aside0.mk hi105_3
                  have HC105_3 := Aside0.mk hl105_3
                  clear hi105_3 hl105_3
                  have HR105_5 := Aside0.mk hi105_5
                  have HC105_5 := Aside0.mk hl105_5
                  clear hi105_5 hl105_5
                  replace p105 := eq_true p105
                  replace q105 := eq_true q105
                  have ea_ := Option.some.inj (hx104_3.symm.trans hx105_3)
                  injection ea_ with ea_ en_ ec_
                  subst ea_
                  subst ec_
                  clear en_
                  have ea_ := Option.some.inj (hx104_5.symm.trans hx105_5)
                  injection ea_ with ea_ en_ ec_
                  subst ea_
                  subst ec_
                  clear en_
                  have p106 : 0 ≤ (x3_1 : Int) := of_decide_eq_true (by first | (with_reducible assumption) | assumption)
                  have q106 : x3_1 < (l0.length : Int) := of_decide_eq_true (by first | (with_reducible assumption) | assumption)
                  obtain ⟨ad106, A106_3, c106_3, A106_5, c106_5, e106, hx106_0, hx106_1, hx106_2, hx106_3, hx106_4, hx106_5, hl106_3, hi106_3, hl106_5, hi106_5⟩ := at_T47 HR0.out x3_1 p106 q106
                  obtain rfl : ad104 = ad106 := (by injection e106)
                  have HR106_3 := Aside0.mk hi106_3
                  have HC106_3 := Aside0.mk hl106_3
                  clear hi106_3 hl106_3
                  have HR106_5 := Aside0.mk hi106_5
                  have HC106_5 := Aside0.mk hl106_5
                  clear hi106_5 hl106_5
                  replace p106 := eq_true p106
                  replace q106 := eq_true q106
                  have ea_ := Option.some.inj (hx104_3.symm.trans hx106_3)
                  injection ea_ with ea_ en_ ec_
                  subst ea_
                  subst ec_
                  clear en_
                  have ea_ := Option.some.inj (hx104_5.symm.trans hx106_5)
                  injection ea_ with ea_ en_ ec_
                  subst ea_
                  subst ec_
                  clear en_
                  go_wp2
                  go_meet
                  case rel => exact ⟨_, (decide ((((rd_T47 l0 x3_1).f2).size : Int) > 100)), (by first | rfl | (simp; done) | (simp [*]; done)), H', ⟨by have := HK1.out; first | omega | exact Nat.le_refl _⟩, by repeat (first | exact Drawn0.refl _ | apply Drawn0.step)⟩
            · rw [if_neg c5] at H
              exact absurd H (by simp)
          case rest =>
            clear HC4
            try clear c1
            try clear p1
            try clear q1
            try clear hx1
            try clear c2
            try clear c2b0
            try clear c2b1
            try clear p2
            try clear c3
            try clear c3b0
            try clear c5
            try clear c5b0
            try clear c6
            try clear c6b0
            try clear c6b1
            try clear c7
            try clear c7b0
            try clear c7b1
            try clear hx104_0
            try clear hx104_1
            try clear hx104_2
            try clear hx104_3
            try clear hx104_4
            try clear hx104_5
            try clear hx105_0
            try clear hx105_1
            try clear hx105_2
            try clear hx105_3
            try clear hx105_4
            try clear hx105_5
            try clear hx106_0
            try clear hx106_1
            try clear hx106_2
            try clear hx106_3
            try clear hx106_4
            try clear hx106_5
            try clear p104
            try clear p105
            try clear p106
            try clear p2
            try clear q104
            try clear q105
            try clear q106
            obtain ⟨kq, x38_3, rfl, HA, HJ3, ⟨mc3, rfl⟩⟩ := hcut
            cases kq with
            | zero => exact absurd HA.out (by simp [affluxlaw06_great.j1])
            | succ kj3 =>
              have H := HA.out
              clear HA
              simp only [affluxlaw06_great.j1] at H
              by_cases c8 : x38_3 = true
              · subst c8
                have H1 : (some true) = some r := by rw [if_pos rfl] at H; exact H
                clear H
                have H := H1
                clear H1
                obtain rfl := Option.some.inj H
                go_wp2
                go_ret
                exact ⟨by first | rfl | (simp; done) | (simp [*]; done), by repeat (first | exact Drawn0.refl _ | apply Drawn0.step)⟩
              · replace c8 := Bool.eq_false_iff.mpr c8
                subst c8
                have H1 : (affluxlaw06_great.l1 kj3 l0 x3_1 0) = some r := by rw [if_neg (show ¬ (false = true) by decide)] at H; exact H
                clear H
                have H := H1
                clear H1
                have H' := Aside0.mk H
                clear H
                go_wp2
                go_loopg [4] kj3 (fun kq v4 w' => ∃ (x4_3 : Int), v4 = .int .i64 x4_3 ∧ Aside0 (affluxlaw06_great.l1 kq l0 x3_1 x4_3 = some r) ∧ Aside0 (kq ≤ kj3) ∧ Drawn0 w w')
                case atStart => exact ⟨(0), (by first | rfl | (simp; done) | (simp [*]; done)), H', ⟨Nat.le_refl _⟩, by repeat (first | exact Drawn0.refl _ | apply Drawn0.step)⟩
                case round =>
                  clear H'
                  try clear c1
                  try clear p1
                  try clear q1
                  try clear hx1
                  try clear c2
                  try clear c2b0
                  try clear c2b1
                  try clear p2
                  try clear c3
                  try clear c3b0
                  try clear c5
                  try clear c5b0
                  try clear c6
                  try clear c6b0
                  try clear c6b1
                  try clear c7
                  try clear c7b0
                  try clear c7b1
                  try clear c8
                  try clear hx104_0
                  try clear hx104_1
                  try clear hx104_2
                  try clear hx104_3
                  try clear hx104_4
                  try clear hx104_5
                  try clear hx105_0
                  try clear hx105_1
                  try clear hx105_2
                  try clear hx105_3
                  try clear hx105_4
                  try clear hx105_5
                  try clear hx106_0
                  try clear hx106_1
                  try clear hx106_2
                  try clear hx106_3
                  try clear hx106_4
                  try clear hx106_5
                  try clear p1
                  try clear p104
                  try clear p105
                  try clear p106
                  try clear p2
                  try clear q1
                  try clear q104
                  try clear q105
                  try clear q106
                  obtain ⟨x4_3, rfl, HA, HK3, ⟨m3, rfl⟩⟩ := hrel
                  cases gk with
                  | zero => exact absurd HA.out (by simp [affluxlaw06_great.l1])
                  | succ k3 =>
                    have H := HA.out
                    clear HA
                    simp only [affluxlaw06_great.l1] at H
                    by_cases c9 : 0 ≤ x3_1
                    · rw [if_pos c9] at H
                      have c9b0 : decide (0 ≤ x3_1) = true := decide_eq_true c9
                      clear c9
                      by_cases c10 : x3_1 < (l0.length : Int)
                      · rw [if_pos c10] at H
                        have c10b0 : decide (x3_1 < (l0.length : Int)) = true := decide_eq_true c10
                        clear c10
                        by_cases c11 : x4_3 < (((rd_T47 l0 x3_1).f3).length : Int)
                        · rw [if_pos c11] at H
                          have c11b0 : decide (x4_3 < (((rd_T47 l0 x3_1).f3).length : Int)) = true := decide_eq_true c11
                          clear c11
                          by_cases c12 : 0 ≤ x4_3
                          · rw [if_pos c12] at H
                            have c12b0 : decide (0 ≤ x4_3) = true := decide_eq_true c12
                            clear c12
                            by_cases c13 : ((rdOf ByteArray.empty ((rd_T47 l0 x3_1).f3) x4_3).size : Int) > 300
                            · rw [if_pos c13] at H
                              have c13b0 : decide (300 < ((rdOf ByteArray.empty ((rd_T47 l0 x3_1).f3) x4_3).size : Int)) = true := decide_eq_true c13
                              have c13b1 : decide (300 < (rdOf ByteArray.empty ((rd_T47 l0 x3_1).f3) x4_3).size) = true := decide_eq_true (by omega)
                              clear c13
                              obtain rfl := Option.some.inj H
                              have p107 : 0 ≤ (x3_1 : Int) := of_decide_eq_true (by first | (with_reducible assumption) | assumption)
                              have q107 : x3_1 < (l0.length : Int) := of_decide_eq_true (by first | (with_reducible assumption) | assumption)
                              obtain ⟨ad107, A107_3, c107_3, A107_5, c107_5, e107, hx107_0, hx107_1, hx107_2, hx107_3, hx107_4, hx107_5, hl107_3, hi107_3, hl107_5, hi107_5⟩ := at_T47 HR0.out x3_1 p107 q107
                              cases e107
                              have HR107_3 := Aside0.mk hi107_3
                              have HC107_3 := Aside0.mk hl107_3
                              clear hi107_3 hl107_3
                              have HR107_5 := Aside0.mk hi107_5
                              have HC107_5 := Aside0.mk hl107_5
                              clear hi107_5 hl107_5
                              replace p107 := eq_true p107
                              replace q107 := eq_true q107
                              have p108 : 0 ≤ (x3_1 : Int) := of_decide_eq_true (by first | (with_reducible assumption) | assumption)
                              have q108 : x3_1 < (l0.length : Int) := of_decide_eq_true (by first | (with_reducible assumption) | assumption)
                              obtain ⟨ad108, A108_3, c108_3, A108_5, c108_5, e108, hx108_0, hx108_1, hx108_2, hx108_3, hx108_4, hx108_5, hl108_3, hi108_3, hl108_5, hi108_5⟩ := at_T47 HR0.out x3_1 p108 q108
                              obtain rfl : ad107 = ad108 := (by injection e108)
                              have HR108_3 := Aside0.mk hi108_3
                              have HC108_3 := Aside0.mk hl108_3
                              clear hi108_3 hl108_3
                              have HR108_5 := Aside0.mk hi108_5
                              have HC108_5 := Aside0.mk hl108_5
                              clear hi108_5 hl108_5
                              replace p108 := eq_true p108
                              replace q108 := eq_true q108
                              have ea_ := Option.some.inj (hx107_3.symm.trans hx108_3)
                              injection ea_ with ea_ en_ ec_
                              subst ea_
                              subst ec_
                              clear en_
                              have ea_ := Option.some.inj (hx107_5.symm.trans hx108_5)
                              injection ea_ with ea_ en_ ec_
                              subst ea_
                              subst ec_
                              clear en_
                              have p109 : 0 ≤ (x4_3 : Int) := of_decide_eq_true (by first | (with_reducible assumption) | assumption)
                              have q109 : x4_3 < (((rd_T47 l0 x3_1).f3).length : Int) := of_decide_eq_true (by first | (with_reducible assumption) | assumption)
                              obtain ⟨ad109, e109, hx109_0⟩ := Kd.at_string HR108_3.out x4_3 p109 q109
                              cases e109
                              replace p109 := eq_true p109
                              replace q109 := eq_true q109
                              go_wp2
                              go_ret
                              exact ⟨by first | rfl | (simp; done) | (simp [*]; done), by repeat (first | exact Drawn0.refl _ | apply Drawn0.step)⟩
                            · rw [if_neg c13] at H
                              have c13b0 : decide (300 < ((rdOf ByteArray.empty ((rd_T47 l0 x3_1).f3) x4_3).size : Int)) = false := decide_eq_false c13
                              have c13b1 : decide (300 < (rdOf ByteArray.empty ((rd_T47 l0 x3_1).f3) x4_3).size) = false := decide_eq_false (by omega)
                              clear c13
                              have H' := Aside0.mk H
                              clear H
                              have p107 : 0 ≤ (x3_1 : Int) := of_decide_eq_true (by first | (with_reducible assumption) | assumption)
                              have q107 : x3_1 < (l0.length : Int) := of_decide_eq_true (by first | (with_reducible assumption) | assumption)
                              obtain ⟨ad107, A107_3, c107_3, A107_5, c107_5, e107, hx107_0, hx107_1, hx107_2, hx107_3, hx107_4, hx107_5, hl107_3, hi107_3, hl107_5, hi107_5⟩ := at_T47 HR0.out x3_1 p107 q107
                              cases e107
                              have HR107_3 := Aside0.mk hi107_3
                              have HC107_3 := Aside0.mk hl107_3
                              clear hi107_3 hl107_3
                              have HR107_5 := Aside0.mk hi107_5
                              have HC107_5 := Aside0.mk hl107_5
                              clear hi107_5 hl107_5
                              replace p107 := eq_true p107
                              replace q107 := eq_true q107
                              have p108 : 0 ≤ (x3_1 : Int) := of_decide_eq_true (by first | (with_reducible assumption) | assumption)
                              have q108 : x3_1 < (l0.length : Int) := of_decide_eq_true (by first | (with_reducible assumption) | assumption)
                              obtain ⟨ad108, A108_3, c108_3, A108_5, c108_5, e108, hx108_0, hx108_1, hx108_2, hx108_3, hx108_4, hx108_5, hl108_3, hi108_3, hl108_5, hi108_5⟩ := at_T47 HR0.out x3_1 p108 q108
                              obtain rfl : ad107 = ad108 := (by injection e108)
                              have HR108_3 := Aside0.mk hi108_3
                              have HC108_3 := Aside0.mk hl108_3
                              clear hi108_3 hl108_3
                              have HR108_5 := Aside0.mk hi108_5
                              have HC108_5 := Aside0.mk hl108_5
                              clear hi108_5 hl108_5
                              replace p108 := eq_true p108
                              replace q108 := eq_true q108
                              have ea_ := Option.some.inj (hx107_3.symm.trans hx108_3)
                              injection ea_ with ea_ en_ ec_
                              subst ea_
                              subst ec_
                              clear en_
                              have ea_ := Option.some.inj (hx107_5.symm.trans hx108_5)
                              injection ea_ with ea_ en_ ec_
                              subst ea_
                              subst ec_
                              clear en_
                              have p109 : 0 ≤ (x4_3 : Int) := of_decide_eq_true (by first | (with_reducible assumption) | assumption)
                              have q109 : x4_3 < (((rd_T47 l0 x3_1).f3).length : Int) := of_decide_eq_true (by first | (with_reducible assumption) | assumption)
                              obtain ⟨ad109, e109, hx109_0⟩ := Kd.at_string HR108_3.out x4_3 p109 q109
                              cases e109
                              replace p109 := eq_true p109
                              replace q109 := eq_true q109
                              go_wp2
                              go_roundg k3
                              case measure => have := HK1.out; have := HJ3.out; have := HK3.out; omega
                              case rel => exact ⟨(wrap64 (x4_3 + 1)), (by first | rfl | (simp; done) | (simp [*]; done)), H', ⟨by have := HK1.out; have := HJ3.out; have := HK3.out; omega⟩, by repeat (first | exact Drawn0.refl _ | apply Drawn0.step)⟩
                          · rw [if_neg c12] at H
                            exact absurd H (by simp)
                        · rw [if_neg c11] at H
                          have c11b0 : decide (x4_3 < (((rd_T47 l0 x3_1).f3).length : Int)) = false := decide_eq_false c11
                          clear c11
                          have H' := Aside0.mk H
                          clear H
                          have p107 : 0 ≤ (x3_1 : Int) := of_decide_eq_true (by first | (with_reducible assumption) | assumption)
                          have q107 : x3_1 < (l0.length : Int) := of_decide_eq_true (by first | (with_reducible assumption) | assumption)
                          obtain ⟨ad107, A107_3, c107_3, A107_5, c107_5, e107, hx107_0, hx107_1, hx107_2, hx107_3, hx107_4, hx107_5, hl107_3, hi107_3, hl107_5, hi107_5⟩ := at_T47 HR0.out x3_1 p107 q107
                          cases e107
                          have HR107_3 := Aside0.mk hi107_3
                          have HC107_3 := Aside0.mk hl107_3
                          clear hi107_3 hl107_3
                          have HR107_5 := Aside0.mk hi107_5
                          have HC107_5 := Aside0.mk hl107_5
                          clear hi107_5 hl107_5
                          replace p107 := eq_true p107
                          replace q107 := eq_true q107
                          go_wp2
                          go_roundg k3
                          case measure => have := HK1.out; have := HJ3.out; have := HK3.out; omega
                          case rel => exact ⟨(wrap64 (x3_1 + 1)), (by first | rfl | (simp; done) | (simp [*]; done)), H', ⟨by have := HK1.out; have := HJ3.out; have := HK3.out; omega⟩, by repeat (first | exact Drawn0.refl _ | apply Drawn0.step)⟩
                      · rw [if_neg c10] at H
                        exact absurd H (by simp)
                    · rw [if_neg c9] at H
                      exact absurd H (by simp)
        · rw [if_neg c3] at H
          have c3b0 : decide (x3_1 < (l0.length : Int)) = false := decide_eq_false c3
          clear c3
          obtain rfl := Option.some.inj H
          go_wp2
          go_ret
          exact ⟨by first | rfl | (simp; done) | (simp [*]; done), by repeat (first | exact Drawn0.refl _ | apply Drawn0.step)⟩

end Go.Proofs.Ytihlacambdfmfaa.PR
