-- Written by a program of this repo (wip/pp.py) out of the translation, for this claim.
import Derived.Test.YtcbbdkennmopdaaGreatDoorTPRx0
namespace Go.Proofs.YtcbbdkennmopdaaGreatDoor.PR
open Go.RowKit Go.Proofs.YtcbbdkennmopdaaGreatDoorW.PrintWords Go.Proofs.YtcbbdkennmopdaaGreatDoorW.PrintLast Go.Proofs.YtcbbdkennmopdaaGreatDoorW.PrintMore
attribute [local go_sem] max2_int min2_int max_two min_two max_three min_three max_four min_four   -- for this text's walks alone
set_option linter.unusedVariables false
set_option linter.unusedSimpArgs false

/-! ### affluxlaw26_great: function 29 -/
mutual
def affluxlaw26_great.l0 : Nat → List (S53) → Int → Option (Bool)
  | 0, _, _ => none
  | k + 1, x0, x3 => if x3 < (x0.length : Int) then (if 0 ≤ x3 then (if (((rd_T53 x0 x3).f1).length : Int) > 6 then (some true) else (affluxlaw26_great.l1 k x0 x3 0)) else (none)) else (some false)
def affluxlaw26_great.l1 : Nat → List (S53) → Int → Int → Option (Bool)
  | 0, _, _, _ => none
  | k + 1, x0, x3, x4 => if 0 ≤ x3 then (if x3 < (x0.length : Int) then (if x4 < (((rd_T53 x0 x3).f1).length : Int) then (if 0 ≤ x4 then (if ((rdOf ByteArray.empty ((rd_T53 x0 x3).f1) x4).size : Int) > 2000 then (some true) else (affluxlaw26_great.l1 k x0 x3 (wrap64 (x4 + 1)))) else (none)) else (affluxlaw26_great.l0 k x0 (wrap64 (x3 + 1)))) else (none)) else (none)
end
def affluxlaw26_great.f (k : Nat) (l0 : List (S53)) : Option (Bool) := if (l0.length : Int) > 12 then (some true) else (affluxlaw26_great.l0 k l0 0)
theorem affluxlaw26_great.mono_l : ∀ k, (∀ y0 y1, LeO (affluxlaw26_great.l0 k y0 y1) (affluxlaw26_great.l0 (k + 1) y0 y1)) ∧ (∀ y0 y1 y2, LeO (affluxlaw26_great.l1 k y0 y1 y2) (affluxlaw26_great.l1 (k + 1) y0 y1 y2))
  | 0 => ⟨fun _ _ r h => by simp [affluxlaw26_great.l0] at h, fun _ _ _ r h => by simp [affluxlaw26_great.l1] at h⟩
  | k + 1 => by
    obtain ⟨ih0, ih1⟩ := affluxlaw26_great.mono_l k
    refine ⟨?_, ?_⟩
    · intro y0 y1
      unfold affluxlaw26_great.l0
      repeat' first
      | (with_reducible exact ih0 _ _)
      | (with_reducible exact ih1 _ _ _)
      | (with_reducible exact LeO.refl _)
      | (with_reducible exact LeO.none _)
      | (with_reducible refine LeO.ite ?_ ?_)
      | (with_reducible refine LeO.bind ?_ (fun _ => ?_))
      | exact ih0 _ _
      | exact ih1 _ _ _
      | exact LeO.none _
      | refine LeO.ite ?_ ?_
      | refine LeO.bind ?_ (fun _ => ?_)
    · intro y0 y1 y2
      unfold affluxlaw26_great.l1
      repeat' first
      | (with_reducible exact ih0 _ _)
      | (with_reducible exact ih1 _ _ _)
      | (with_reducible exact LeO.refl _)
      | (with_reducible exact LeO.none _)
      | (with_reducible refine LeO.ite ?_ ?_)
      | (with_reducible refine LeO.bind ?_ (fun _ => ?_))
      | exact ih0 _ _
      | exact ih1 _ _ _
      | exact LeO.none _
      | refine LeO.ite ?_ ?_
      | refine LeO.bind ?_ (fun _ => ?_)
theorem affluxlaw26_great.mono : ∀ a0 k, LeO (affluxlaw26_great.f k a0) (affluxlaw26_great.f (k + 1) a0) := by
  intro a0 k
  obtain ⟨ih0, ih1⟩ := affluxlaw26_great.mono_l k
  unfold affluxlaw26_great.f
  repeat' first
      | (with_reducible exact ih0 _ _)
      | (with_reducible exact ih1 _ _ _)
      | (with_reducible exact LeO.refl _)
      | (with_reducible exact LeO.none _)
      | (with_reducible refine LeO.ite ?_ ?_)
      | (with_reducible refine LeO.bind ?_ (fun _ => ?_))
      | exact ih0 _ _
      | exact ih1 _ _ _
      | exact LeO.none _
      | refine LeO.ite ?_ ?_
      | refine LeO.bind ?_ (fun _ => ?_)
set_option maxHeartbeats 8000000 in
set_option maxRecDepth 100000 in
theorem affluxlaw26_great.calls (k : Nat) (A0 : Option Addr) (c0 : Nat) (l0 : List (S53)) (r : Bool) (w : World) (hr0 : Kd.C k53 w A0 l0.length l0) (hc0 : l0.length ≤ c0) (h : affluxlaw26_great.f k l0 = some r) :
    Calls Tryz.prog 29 #[.slice A0 l0.length c0] w fun e w' => e = .returned (.bool r) ∧ Drawn0 w w' := by
  have HR0 := Aside0.mk hr0
  have HC0 := Aside0.mk hc0
  clear hr0 hc0
  have H : (if (l0.length : Int) > 12 then (some true) else (affluxlaw26_great.l0 k l0 0)) = some r := h
  clear h
  by_cases c2 : (l0.length : Int) > 12
  · rw [if_pos c2] at H
    have c2b0 : decide (12 < (l0.length : Int)) = true := decide_eq_true c2
    have c2b1 : decide (12 < l0.length) = true := decide_eq_true (by omega)
    clear c2
    obtain rfl := Option.some.inj H
    go_enter Tryz.func29, Tryz.ntmps29
    go_wp2
    go_ret
    exact ⟨by first | rfl | (simp; done) | (simp [*]; done), by repeat (first | exact Drawn0.refl _ | apply Drawn0.step)⟩
  · rw [if_neg c2] at H
    have c2b0 : decide (12 < (l0.length : Int)) = false := decide_eq_false c2
    have c2b1 : decide (12 < l0.length) = false := decide_eq_false (by omega)
    clear c2
    have H' := Aside0.mk H
    clear H
    go_enter Tryz.func29, Tryz.ntmps29
    go_wp2
    go_loopg [3] k (fun kq v3 w' => ∃ (x3_1 : Int), v3 = .int .i64 x3_1 ∧ Aside0 (affluxlaw26_great.l0 kq l0 x3_1 = some r) ∧ Aside0 (kq ≤ k) ∧ Drawn0 w w')
    case atStart => exact ⟨(0), (by first | rfl | (simp; done) | (simp [*]; done)), H', ⟨Nat.le_refl _⟩, by repeat (first | exact Drawn0.refl _ | apply Drawn0.step)⟩
    case round =>
      clear H'
      try clear c2
      try clear c2b0
      try clear c2b1
      try clear p2
      obtain ⟨x3_1, rfl, HA, HK1, ⟨m1, rfl⟩⟩ := hrel
      cases gk with
      | zero => exact absurd HA.out (by simp [affluxlaw26_great.l0])
      | succ k1 =>
        have H := HA.out
        clear HA
        simp only [affluxlaw26_great.l0] at H
        by_cases c3 : x3_1 < (l0.length : Int)
        · rw [if_pos c3] at H
          have c3b0 : decide (x3_1 < (l0.length : Int)) = true := decide_eq_true c3
          clear c3
          by_cases c4 : 0 ≤ x3_1
          · rw [if_pos c4] at H
            have c4b0 : decide (0 ≤ x3_1) = true := decide_eq_true c4
            clear c4
            by_cases c5 : (((rd_T53 l0 x3_1).f1).length : Int) > 6
            · rw [if_pos c5] at H
              have c5b0 : decide (6 < (((rd_T53 l0 x3_1).f1).length : Int)) = true := decide_eq_true c5
              have c5b1 : decide (6 < ((rd_T53 l0 x3_1).f1).length) = true := decide_eq_true (by omega)
              clear c5
              obtain rfl := Option.some.inj H
              have p114 : 0 ≤ (x3_1 : Int) := of_decide_eq_true (by first | (with_reducible assumption) | assumption)
              have q114 : x3_1 < (l0.length : Int) := of_decide_eq_true (by first | (with_reducible assumption) | assumption)
              obtain ⟨ad114, A114_1, c114_1, e114, hx114_0, hx114_1, hl114_1, hi114_1⟩ := at_T53 HR0.out x3_1 p114 q114
              cases e114
              have HR114_1 := Aside0.mk hi114_1
              have HC114_1 := Aside0.mk hl114_1
              clear hi114_1 hl114_1
              replace p114 := eq_true p114
              replace q114 := eq_true q114
              go_wp2
              go_ret
              exact ⟨by first | rfl | (simp; done) | (simp [*]; done), by repeat (first | exact Drawn0.refl _ | apply Drawn0.step)⟩
            · rw [if_neg c5] at H
              have c5b0 : decide (6 < (((rd_T53 l0 x3_1).f1).length : Int)) = false := decide_eq_false c5
              have c5b1 : decide (6 < ((rd_T53 l0 x3_1).f1).length) = false := decide_eq_false (by omega)
              clear c5
              have H' := Aside0.mk H
              clear H
              have p114 : 0 ≤ (x3_1 : Int) := of_decide_eq_true (by first | (with_reducible assumption) | assumption)
              have q114 : x3_1 < (l0.length : Int) := of_decide_eq_true (by first | (with_reducible assumption) | assumption)
              obtain ⟨ad114, A114_1, c114_1, e114, hx114_0, hx114_1, hl114_1, hi114_1⟩ := at_T53 HR0.out x3_1 p114 q114
              cases e114
              have HR114_1 := Aside0.mk hi114_1
              have HC114_1 := Aside0.mk hl114_1
              clear hi114_1 hl114_1
              replace p114 := eq_true p114
              replace q114 := eq_true q114
              go_wp2
              go_loopg [4] k1 (fun kq v4 w' => ∃ (x4_2 : Int), v4 = .int .i64 x4_2 ∧ Aside0 (affluxlaw26_great.l1 kq l0 x3_1 x4_2 = some r) ∧ Aside0 (kq ≤ k1) ∧ Drawn0 w w')
              case atStart => exact ⟨(0), (by first | rfl | (simp; done) | (simp [*]; done)), H', ⟨Nat.le_refl _⟩, by repeat (first | exact Drawn0.refl _ | apply Drawn0.step)⟩
              case round =>
                clear H'
                try clear c1
                try clear p1
                try clear q1
                try clear hx1
                try clear c2
                try clear c2b0
                try clear c2b1
                try clear p2
                try clear c3
                try clear c3b0
                try clear c4
                try clear c4b0
                try clear c5
                try clear c5b0
                try clear c5b1
                try clear hx114_0
                try clear hx114_1
                try clear p114
                try clear p2
                try clear q114
                obtain ⟨x4_2, rfl, HA, HK2, ⟨m2, rfl⟩⟩ := hrel
                cases gk with
                | zero => exact absurd HA.out (by simp [affluxlaw26_great.l1])
                | succ k2 =>
                  have H := HA.out
                  clear HA
                  simp only [affluxlaw26_great.l1] at H
                  by_cases c6 : 0 ≤ x3_1
                  · rw [if_pos c6] at H
                    have c6b0 : decide (0 ≤ x3_1) = true := decide_eq_true c6
                    clear c6
                    by_cases c7 : x3_1 < (l0.length : Int)
                    · rw [if_pos c7] at H
                      have c7b0 : decide (x3_1 < (l0.length : Int)) = true := decide_eq_true c7
                      clear c7
                      by_cases c8 : x4_2 < (((rd_T53 l0 x3_1).f1).length : Int)
                      · rw [if_pos c8] at H
                        have c8b0 : decide (x4_2 < (((rd_T53 l0 x3_1).f1).length : Int)) = true := decide_eq_true c8
                        clear c8
                        by_cases c9 : 0 ≤ x4_2
                        · rw [if_pos c9] at H
                          have c9b0 : decide (0 ≤ x4_2) = true := decide_eq_true c9
                          clear c9
                          by_cases c10 : ((rdOf ByteArray.empty ((rd_T53 l0 x3_1).f1) x4_2).size : Int) > 2000
                          · rw [if_pos c10] at H
                            have c10b0 : decide (2000 < ((rdOf ByteArray.empty ((rd_T53 l0 x3_1).f1) x4_2).size : Int)) = true := decide_eq_true c10
                            have c10b1 : decide (2000 < (rdOf ByteArray.empty ((rd_T53 l0 x3_1).f1) x4_2).size) = true := decide_eq_true (by omega)
                            clear c10
                            obtain rfl := Option.some.inj H
                            have p115 : 0 ≤ (x3_1 : Int) := of_decide_eq_true (by first | (with_reducible assumption) | assumption)
                            have q115 : x3_1 < (l0.length : Int) := of_decide_eq_true (by first | (with_reducible assumption) | assumption)
                            obtain ⟨ad115, A115_1, c115_1, e115, hx115_0, hx115_1, hl115_1, hi115_1⟩ := at_T53 HR0.out x3_1 p115 q115
                            obtain rfl : ad114 = ad115 := (by injection e115)
                            have HR115_1 := Aside0.mk hi115_1
                            have HC115_1 := Aside0.mk hl115_1
                            clear hi115_1 hl115_1
                            replace p115 := eq_true p115
                            replace q115 := eq_true q115
                            have p116 : 0 ≤ (x3_1 : Int) := of_decide_eq_true (by first | (with_reducible assumption) | assumption)
                            have q116 : x3_1 < (l0.length : Int) := of_decide_eq_true (by first | (with_reducible assumption) | assumption)
                            obtain ⟨ad116, A116_1, c116_1, e116, hx116_0, hx116_1, hl116_1, hi116_1⟩ := at_T53 HR0.out x3_1 p116 q116
                            obtain rfl : ad114 = ad116 := (by injection e116)
                            have HR116_1 := Aside0.mk hi116_1
                            have HC116_1 := Aside0.mk hl116_1
                            clear hi116_1 hl116_1
                            replace p116 := eq_true p116
                            replace q116 := eq_true q116
                            have ea_ := Option.some.inj (hx115_1.symm.trans hx116_1)
                            injection ea_ with ea_ en_ ec_
                            subst ea_
                            subst ec_
                            clear en_
                            have p117 : 0 ≤ (x4_2 : Int) := of_decide_eq_true (by first | (with_reducible assumption) | assumption)
                            have q117 : x4_2 < (((rd_T53 l0 x3_1).f1).length : Int) := of_decide_eq_true (by first | (with_reducible assumption) | assumption)
                            obtain ⟨ad117, e117, hx117_0⟩ := Kd.at_string HR116_1.out x4_2 p117 q117
                            cases e117
                            replace p117 := eq_true p117
                            replace q117 := eq_true q117
                            go_wp2
                            go_ret
                            exact ⟨by first | rfl | (simp; done) | (simp [*]; done), by repeat (first | exact Drawn0.refl _ | apply Drawn0.step)⟩
                          · rw [if_neg c10] at H
                            have c10b0 : decide (2000 < ((rdOf ByteArray.empty ((rd_T53 l0 x3_1).f1) x4_2).size : Int)) = false := decide_eq_false c10
                            have c10b1 : decide (2000 < (rdOf ByteArray.empty ((rd_T53 l0 x3_1).f1) x4_2).size) = false := decide_eq_false (by omega)
                            clear c10
                            have H' := Aside0.mk H
                            clear H
                            have p115 : 0 ≤ (x3_1 : Int) := of_decide_eq_true (by first | (with_reducible assumption) | assumption)
                            have q115 : x3_1 < (l0.length : Int) := of_decide_eq_true (by first | (with_reducible assumption) | assumption)
                            obtain ⟨ad115, A115_1, c115_1, e115, hx115_0, hx115_1, hl115_1, hi115_1⟩ := at_T53 HR0.out x3_1 p115 q115
                            obtain rfl : ad114 = ad115 := (by injection e115)
                            have HR115_1 := Aside0.mk hi115_1
                            have HC115_1 := Aside0.mk hl115_1
                            clear hi115_1 hl115_1
                            replace p115 := eq_true p115
                            replace q115 := eq_true q115
                            have p116 : 0 ≤ (x3_1 : Int) := of_decide_eq_true (by first | (with_reducible assumption) | assumption)
                            have q116 : x3_1 < (l0.length : Int) := of_decide_eq_true (by first | (with_reducible assumption) | assumption)
                            obtain ⟨ad116, A116_1, c116_1, e116, hx116_0, hx116_1, hl116_1, hi116_1⟩ := at_T53 HR0.out x3_1 p116 q116
                            obtain rfl : ad114 = ad116 := (by injection e116)
                            have HR116_1 := Aside0.mk hi116_1
                            have HC116_1 := Aside0.mk hl116_1
                            clear hi116_1 hl116_1
                            replace p116 := eq_true p116
                            replace q116 := eq_true q116
                            have ea_ := Option.some.inj (hx115_1.symm.trans hx116_1)
                            injection ea_ with ea_ en_ ec_
                            subst ea_
                            subst ec_
                            clear en_
                            have p117 : 0 ≤ (x4_2 : Int) := of_decide_eq_true (by first | (with_reducible assumption) | assumption)
                            have q117 : x4_2 < (((rd_T53 l0 x3_1).f1).length : Int) := of_decide_eq_true (by first | (with_reducible assumption) | assumption)
                            obtain ⟨ad117, e117, hx117_0⟩ := Kd.at_string HR116_1.out x4_2 p117 q117
                            cases e117
                            replace p117 := eq_true p117
                            replace q117 := eq_true q117
                            go_wp2
                            go_roundg k2
                            case measure => have := HK1.out; have := HK2.out; omega
                            case rel => exact ⟨(wrap64 (x4_2 + 1)), (by first | rfl | (simp; done) | (simp [*]; done)), H', ⟨by have := HK1.out; have := HK2.out; omega⟩, by repeat (first | exact Drawn0.refl _ | apply Drawn0.step)⟩
                        · rw [if_neg c9] at H
                          exact absurd H (by simp)
                      · rw [if_neg c8] at H
                        have c8b0 : decide (x4_2 < (((rd_T53 l0 x3_1).f1).length : Int)) = false := decide_eq_false c8
                        clear c8
                        have H' := Aside0.mk H
                        clear H
                        have p115 : 0 ≤ (x3_1 : Int) := of_decide_eq_true (by first | (with_reducible assumption) | assumption)
                        have q115 : x3_1 < (l0.length : Int) := of_decide_eq_true (by first | (with_reducible assumption) | assumption)
                        obtain ⟨ad115, A115_1, c115_1, e115, hx115_0, hx115_1, hl115_1, hi115_1⟩ := at_T53 HR0.out x3_1 p115 q115
                        obtain rfl : ad114 = ad115 := (by injection e115)
                        have HR115_1 := Aside0.mk hi115_1
                        have HC115_1 := Aside0.mk hl115_1
                        clear hi115_1 hl115_1
                        replace p115 := eq_true p115
                        replace q115 := eq_true q115
                        go_wp2
                        go_roundg k2
                        case measure => have := HK1.out; have := HK2.out; omega
                        case rel => exact ⟨(wrap64 (x3_1 + 1)), (by first | rfl | (simp; done) | (simp [*]; done)), H', ⟨by have := HK1.out; have := HK2.out; omega⟩, by repeat (first | exact Drawn0.refl _ | apply Drawn0.step)⟩
                    · rw [if_neg c7] at H
                      exact absurd H (by simp)
                  · rw [if_neg c6] at H
                    exact absurd H (by simp)
          · rw [if_neg c4] at H
            exact absurd H (by simp)
        · rw [if_neg c3] at H
          have c3b0 : decide (x3_1 < (l0.length : Int)) = false := decide_eq_false c3
          clear c3
          obtain rfl := Option.some.inj H
          go_wp2
          go_ret
          exact ⟨by first | rfl | (simp; done) | (simp [*]; done), by repeat (first | exact Drawn0.refl _ | apply Drawn0.step)⟩

end Go.Proofs.YtcbbdkennmopdaaGreatDoor.PR
