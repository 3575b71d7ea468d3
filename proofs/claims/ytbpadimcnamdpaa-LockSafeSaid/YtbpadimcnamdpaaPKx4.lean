-- Written by a program of this repo (wip/pp.py) out of the translation, for this claim.
import Derived.Test.YtbpadimcnamdpaaPKx0
namespace Go.Proofs.Ytbpadimcnamdpaa.PK
open Go.RowKit Go.Proofs.YtbpadimcnamdpaaW.PrintWords Go.Proofs.YtbpadimcnamdpaaW.PrintLast Go.Proofs.YtbpadimcnamdpaaW.PrintMore
attribute [local go_sem] max2_int min2_int max_two min_two max_three min_three max_four min_four   -- for this text's walks alone
set_option linter.unusedVariables false
set_option linter.unusedSimpArgs false

/-! ### affluxlaw22_union: function 12 -/
mutual
def affluxlaw22_union.l0 : Nat → List (S31) → List (S31) → Int → Option ((List (S31)))
  | 0, _, _, _ => none
  | k + 1, x0, x3, x4 => if x4 < (x0.length : Int) then (affluxlaw22_union.l1 k x0 x3 x4 0) else (some x3)
def affluxlaw22_union.j2 : Nat → List (S31) → List (S31) → Int → Int → Option ((List (S31)))
  | 0, _, _, _, _ => none
  | k + 1, x0, x3, x4, x5 => if x5 < (x3.length : Int) then (if 0 ≤ x5 then (if 0 ≤ x4 then (if x4 < (x0.length : Int) then (affluxlaw22_union.j3 k x0 x3 x4 x5 (((rd_T31 x3 x5).f0).toList == ((rd_T31 x0 x4).f0).toList)) else (none)) else (none)) else (none)) else (affluxlaw22_union.j3 k x0 x3 x4 x5 false)
def affluxlaw22_union.j3 : Nat → List (S31) → List (S31) → Int → Int → Bool → Option ((List (S31)))
  | 0, _, _, _, _, _ => none
  | k + 1, x0, x3, x4, x5, x48 => if x48 = true then (if 0 ≤ x5 then (if x5 < (x3.length : Int) then (if (rd_T31 x3 x5).f1 = true then (affluxlaw22_union.l0 k x0 (x3.set (x5 : Int).toNat (⟨(rd_T31 x3 x5).f0, true⟩ : S31)) (wrap64 (x4 + 1))) else (if 0 ≤ x4 then (if x4 < (x0.length : Int) then (affluxlaw22_union.l0 k x0 (x3.set (x5 : Int).toNat (⟨(rd_T31 x3 x5).f0, (rd_T31 x0 x4).f1⟩ : S31)) (wrap64 (x4 + 1))) else (none)) else (none))) else (none)) else (none)) else (if x3.length < 5864062014805 then ((some (x3 ++ [(⟨(⟨#[]⟩ : ByteArray), false⟩ : S31)] : List (S31))).bind fun y133 => (affluxlaw22_union.l2 k x0 y133 x4 x5 (wrap64 ((y133.length : Int) - 1)))) else (none))
def affluxlaw22_union.l2 : Nat → List (S31) → List (S31) → Int → Int → Int → Option ((List (S31)))
  | 0, _, _, _, _, _ => none
  | k + 1, x0, x3, x4, x5, x6 => if x6 > x5 then (if 0 ≤ (wrap64 (x6 - 1)) then (if (wrap64 (x6 - 1)) < (x3.length : Int) then (if 0 ≤ x6 then (if x6 < (x3.length : Int) then (affluxlaw22_union.l2 k x0 (x3.set (x6 : Int).toNat (⟨(rd_T31 x3 (wrap64 (x6 - 1))).f0, (rd_T31 x3 (wrap64 (x6 - 1))).f1⟩ : S31)) x4 x5 (wrap64 (x6 - 1))) else (none)) else (none)) else (none)) else (none)) else (if 0 ≤ x4 then (if x4 < (x0.length : Int) then (if 0 ≤ x5 then (if x5 < (x3.length : Int) then (affluxlaw22_union.l0 k x0 (x3.set (x5 : Int).toNat (⟨(rd_T31 x0 x4).f0, (rd_T31 x0 x4).f1⟩ : S31)) (wrap64 (x4 + 1))) else (none)) else (none)) else (none)) else (none))
def affluxlaw22_union.l1 : Nat → List (S31) → List (S31) → Int → Int → Option ((List (S31)))
  | 0, _, _, _, _ => none
  | k + 1, x0, x3, x4, x5 => if x5 < (x3.length : Int) then (if 0 ≤ x5 then (if 0 ≤ x4 then (if x4 < (x0.length : Int) then (if (Op.bytesLess (((rd_T31 x3 x5).f0).toList) (((rd_T31 x0 x4).f0).toList)) = true then (affluxlaw22_union.l1 k x0 x3 x4 (wrap64 (x5 + 1))) else (affluxlaw22_union.j2 k x0 x3 x4 x5)) else (none)) else (none)) else (none)) else (affluxlaw22_union.j2 k x0 x3 x4 x5)
end
def affluxlaw22_union.f (k : Nat) (l0 : List (S31)) : Option ((List (S31))) := affluxlaw22_union.l0 k l0 ([] : List (S31)) 0
theorem affluxlaw22_union.mono_l : ∀ k, (∀ y0 y1 y2, LeO (affluxlaw22_union.l0 k y0 y1 y2) (affluxlaw22_union.l0 (k + 1) y0 y1 y2)) ∧ (∀ y0 y1 y2 y3, LeO (affluxlaw22_union.j2 k y0 y1 y2 y3) (affluxlaw22_union.j2 (k + 1) y0 y1 y2 y3)) ∧ (∀ y0 y1 y2 y3 y4, LeO (affluxlaw22_union.j3 k y0 y1 y2 y3 y4) (affluxlaw22_union.j3 (k + 1) y0 y1 y2 y3 y4)) ∧ (∀ y0 y1 y2 y3 y4, LeO (affluxlaw22_union.l2 k y0 y1 y2 y3 y4) (affluxlaw22_union.l2 (k + 1) y0 y1 y2 y3 y4)) ∧ (∀ y0 y1 y2 y3, LeO (affluxlaw22_union.l1 k y0 y1 y2 y3) (affluxlaw22_union.l1 (k + 1) y0 y1 y2 y3))
  | 0 => ⟨fun _ _ _ r h => by simp [affluxlaw22_union.l0] at h, fun _ _ _ _ r h => by simp [affluxlaw22_union.j2] at h, fun _ _ _ _ _ r h => by simp [affluxlaw22_union.j3] at h, fun _ _ _ _ _ r h => by simp [affluxlaw22_union.l2] at h, fun _ _ _ _ r h => by simp [affluxlaw22_union.l1] at h⟩
  | k + 1 => by
    obtain ⟨ih0, ih1, ih2, ih3, ih4⟩ := affluxlaw22_union.mono_l k
    refine ⟨?_, ?_, ?_, ?_, ?_⟩
    · intro y0 y1 y2
      unfold affluxlaw22_union.l0
      repeat' first
      | (with_reducible exact ih0 _ _ _)
      | (with_reducible exact ih1 _ _ _ _)
      | (with_reducible exact ih2 _ _ _ _ _)
      | (with_reducible exact ih3 _ _ _ _ _)
      | (with_reducible exact ih4 _ _ _ _)
      | (with_reducible exact LeO.refl _)
      | (with_reducible exact LeO.none _)
      | (with_reducible refine LeO.ite ?_ ?_)
      | (with_reducible refine LeO.bind ?_ (fun _ => ?_))
      | exact ih0 _ _ _
      | exact ih1 _ _ _ _
      | exact ih2 _ _ _ _ _
      | exact ih3 _ _ _ _ _
      | exact ih4 _ _ _ _
      | exact LeO.none _
      | refine LeO.ite ?_ ?_
      | refine LeO.bind ?_ (fun _ => ?_)
    · intro y0 y1 y2 y3
      unfold affluxlaw22_union.j2
      repeat' first
      | (with_reducible exact ih0 _ _ _)
      | (with_reducible exact ih1 _ _ _ _)
      | (with_reducible exact ih2 _ _ _ _ _)
      | (with_reducible exact ih3 _ _ _ _ _)
      | (with_reducible exact ih4 _ _ _ _)
      | (with_reducible exact LeO.refl _)
      | (with_reducible exact LeO.none _)
      | (with_reducible refine LeO.ite ?_ ?_)
      | (with_reducible refine LeO.bind ?_ (fun _ => ?_))
      | exact ih0 _ _ _
      | exact ih1 _ _ _ _
      | exact ih2 _ _ _ _ _
      | exact ih3 _ _ _ _ _
      | exact ih4 _ _ _ _
      | exact LeO.none _
      | refine LeO.ite ?_ ?_
      | refine LeO.bind ?_ (fun _ => ?_)
    · intro y0 y1 y2 y3 y4
      unfold affluxlaw22_union.j3
      repeat' first
      | (with_reducible exact ih0 _ _ _)
      | (with_reducible exact ih1 _ _ _ _)
      | (with_reducible exact ih2 _ _ _ _ _)
      | (with_reducible exact ih3 _ _ _ _ _)
      | (with_reducible exact ih4 _ _ _ _)
      | (with_reducible exact LeO.refl _)
      | (with_reducible exact LeO.none _)
      | (with_reducible refine LeO.ite ?_ ?_)
      | (with_reducible refine LeO.bind ?_ (fun _ => ?_))
      | exact ih0 _ _ _
      | exact ih1 _ _ _ _
      | exact ih2 _ _ _ _ _
      | exact ih3 _ _ _ _ _
      | exact ih4 _ _ _ _
      | exact LeO.none _
      | refine LeO.ite ?_ ?_
      | refine LeO.bind ?_ (fun _ => ?_)
    · intro y0 y1 y2 y3 y4
      unfold affluxlaw22_union.l2
      repeat' first
      | (with_reducible exact ih0 _ _ _)
      | (with_reducible exact ih1 _ _ _ _)
      | (with_reducible exact ih2 _ _ _ _ _)
      | (with_reducible exact ih3 _ _ _ _ _)
      | (with_reducible exact ih4 _ _ _ _)
      | (with_reducible exact LeO.refl _)
      | (with_reducible exact LeO.none _)
      | (with_reducible refine LeO.ite ?_ ?_)
      | (with_reducible refine LeO.bind ?_ (fun _ => ?_))
      | exact ih0 _ _ _
      | exact ih1 _ _ _ _
      | exact ih2 _ _ _ _ _
      | exact ih3 _ _ _ _ _
      | exact ih4 _ _ _ _
      | exact LeO.none _
      | refine LeO.ite ?_ ?_
      | refine LeO.bind ?_ (fun _ => ?_)
    · intro y0 y1 y2 y3
      unfold affluxlaw22_union.l1
      repeat' first
      | (with_reducible exact ih0 _ _ _)
      | (with_reducible exact ih1 _ _ _ _)
      | (with_reducible exact ih2 _ _ _ _ _)
      | (with_reducible exact ih3 _ _ _ _ _)
      | (with_reducible exact ih4 _ _ _ _)
      | (with_reducible exact LeO.refl _)
      | (with_reducible exact LeO.none _)
      | (with_reducible refine LeO.ite ?_ ?_)
      | (with_reducible refine LeO.bind ?_ (fun _ => ?_))
      | exact ih0 _ _ _
      | exact ih1 _ _ _ _
      | exact ih2 _ _ _ _ _
      | exact ih3 _ _ _ _ _
      | exact ih4 _ _ _ _
      | exact LeO.none _
      | refine LeO.ite ?_ ?_
      | refine LeO.bind ?_ (fun _ => ?_)
theorem affluxlaw22_union.mono : ∀ a0 k, LeO (affluxlaw22_union.f k a0) (affluxlaw22_union.f (k + 1) a0) := by
  intro a0 k
  obtain ⟨ih0, ih1, ih2, ih3, ih4⟩ := affluxlaw22_union.mono_l k
  unfold affluxlaw22_union.f
  repeat' first
      | (with_reducible exact ih0 _ _ _)
      | (with_reducible exact ih1 _ _ _ _)
      | (with_reducible exact ih2 _ _ _ _ _)
      | (with_reducible exact ih3 _ _ _ _ _)
      | (with_reducible exact ih4 _ _ _ _)
      | (with_reducible exact LeO.refl _)
      | (with_reducible exact LeO.none _)
      | (with_reducible refine LeO.ite ?_ ?_)
      | (with_reducible refine LeO.bind ?_ (fun _ => ?_))
      | exact ih0 _ _ _
      | exact ih1 _ _ _ _
      | exact ih2 _ _ _ _ _
      | exact ih3 _ _ _ _ _
      | exact ih4 _ _ _ _
      | exact LeO.none _
      | refine LeO.ite ?_ ?_
      | refine LeO.bind ?_ (fun _ => ?_)
set_option maxHeartbeats 8000000 in
set_option maxRecDepth 100000 in
theorem affluxlaw22_union.calls (k : Nat) (A0 : Option Addr) (c0 : Nat) (l0 : List (S31)) (r : List (S31)) (w : World) (hr0 : Kd.C k31 w A0 l0.length l0) (hc0 : l0.length ≤ c0) (h : affluxlaw22_union.f k l0 = some r) :
    Calls Try.prog 12 #[.slice A0 l0.length c0] w fun e w' => ∃ v0_ : Value, e = .returned (v0_) ∧ Kd.R k31 31 w' w.heap.size (fun _ => True) v0_ r ∧ Below w.heap.size w w' := by
  have hu31 := Try.underlying31
  have HR0 := Aside0.mk hr0
  have HC0 := Aside0.mk hc0
  clear hr0 hc0
  have HB := Aside0.mk (Below.refl w.heap.size w)
  have H : (affluxlaw22_union.l0 k l0 ([] : List (S31)) 0) = some r := h
  clear h
  have H' := Aside0.mk H
  clear H
  go_enter Try.func12, Try.ntmps12
  go_wp2
  repeat (go_quiet (fail); try go_wp2)
  go_loopg [3, 4] k (fun kq v3 v4 w' => ∃ (x3_1 : List (S31)) (x4_1 : Int), v4 = .int .i64 x4_1 ∧ Aside0 (affluxlaw22_union.l0 kq l0 x3_1 x4_1 = some r) ∧ Aside0 (kq ≤ k) ∧ Aside0 (Kd.R k31 31 w' w.heap.size (fun _ => True) v3 x3_1) ∧ Aside0 (Below w.heap.size w w'))
  case atStart => exact ⟨(([] : List (S31))), (0), (by first | rfl | (simp; done) | (simp [*]; done)), H', ⟨Nat.le_refl _⟩, ⟨by first | exact Kd.R_nil _ _ _ _ _ | exact Kd.N_nil _ _ _ _ _ | exact Kd.V_nil _ _ _ _ _ | exact Kd.Q_nil _ _ _ _ _ | exact Kd.S_nil _ _ _ _ _⟩, ⟨by repeat (first | (with_reducible first | exact HB.out | apply below_alloc | apply pw_below_drewN | apply below_drew1) | exact HB.out)⟩⟩
  case round =>
    clear H'
    try clear c1
    obtain ⟨x3_1, x4_1, rfl, HA, HK1, HO_3, HB⟩ := hrel
    cases gk with
    | zero => exact absurd HA.out (by simp [affluxlaw22_union.l0])
    | succ k1 =>
      have H := HA.out
      clear HA
      simp only [affluxlaw22_union.l0] at H
      by_cases c2 : x4_1 < (l0.length : Int)
      · rw [if_pos c2] at H
        have c2b0 : decide (x4_1 < (l0.length : Int)) = true := decide_eq_true c2
        clear c2
        have HC3 := Aside0.mk H
        clear H
        go_upto_block 2 with (fail)
        repeat (go_quiet (fail); go_upto_block 2 with (fail))
        go_cut [5] (fun v5 wc => ∃ (kq : Nat) (x5_2 : Int), v5 = .int .i64 x5_2 ∧ Aside0 (affluxlaw22_union.j2 kq l0 x3_1 x4_1 x5_2 = some r) ∧ Aside0 (kq ≤ k1) ∧ Aside0 (Kd.R k31 31 wc w.heap.size (fun _ => True) u3 x3_1) ∧ Aside0 (Below w.heap.size w wc))
        case first =>
          have H := HC3.out
          clear HC3
          have H' := Aside0.mk H
          clear H
          go_wp2
          repeat (go_quiet (fail); try go_wp2)
          go_loopg [5] k1 (fun kq v5 w' => ∃ (x5_2 : Int), v5 = .int .i64 x5_2 ∧ Aside0 (affluxlaw22_union.l1 kq l0 x3_1 x4_1 x5_2 = some r) ∧ Aside0 (kq ≤ k1) ∧ Aside0 (Kd.R k31 31 w' w.heap.size (fun _ => True) u3 x3_1) ∧ Aside0 (Below w.heap.size w w'))
          case atStart => exact ⟨(0), (by first | rfl | (simp; done) | (simp [*]; done)), H', ⟨Nat.le_refl _⟩, ⟨by (with_reducible repeat (first | apply Kd.R_alloc | apply Kd.R_drewN | apply Kd.R_drew)); exact HO_3.out⟩, ⟨by repeat (first | (with_reducible first | exact HB.out | apply below_alloc | apply pw_below_drewN | apply below_drew1) | exact HB.out)⟩⟩
          case round =>
            clear H'
            try clear c1
            try clear c2
            try clear c2b0
            try clear p2
            obtain ⟨x5_2, rfl, HA, HK2, HO_3, HB⟩ := hrel
            cases gk with
            | zero => exact absurd HA.out (by simp [affluxlaw22_union.l1])
            | succ k2 =>
              have H := HA.out
              clear HA
              simp only [affluxlaw22_union.l1] at H
              by_cases c4 : x5_2 < (x3_1.length : Int)
              · rw [if_pos c4] at H
                have c4b0 : decide (x5_2 < (x3_1.length : Int)) = true := decide_eq_true c4
                clear c4
                (first | rw [c4b0] | (simp only [i64_w, i32_w]; rw [c4b0]) | skip)
                by_cases c5 : 0 ≤ x5_2
                · rw [if_pos c5] at H
                  have c5b0 : decide (0 ≤ x5_2) = true := decide_eq_true c5
                  clear c5
                  by_cases c6 : 0 ≤ x4_1
                  · rw [if_pos c6] at H
                    have c6b0 : decide (0 ≤ x4_1) = true := decide_eq_true c6
                    clear c6
                    by_cases c7 : x4_1 < (l0.length : Int)
                    · rw [if_pos c7] at H
                      have c7b0 : decide (x4_1 < (l0.length : Int)) = true := decide_eq_true c7
                      clear c7
                      by_cases c8 : (Op.bytesLess (((rd_T31 x3_1 x5_2).f0).toList) (((rd_T31 l0 x4_1).f0).toList)) = true
                      · rw [if_pos c8] at H
                        have c8b0 : (Op.bytesLess (((rd_T31 x3_1 x5_2).f0).toList) (((rd_T31 l0 x4_1).f0).toList)) = true := c8
                        clear c8
                        have H' := Aside0.mk H
                        clear H
                        obtain ⟨Ao9, co9, eo9⟩ := Kd.R_slice HO_3.out
                        subst eo9
                        have p125 : 0 ≤ (x5_2 : Int) := of_decide_eq_true (by first | (with_reducible assumption) | assumption)
                        have q125 : x5_2 < (x3_1.length : Int) := of_decide_eq_true (by first | (with_reducible assumption) | assumption)
                        obtain ⟨ad125, e125, hx125_0, hx125_1⟩ := at_T31 (Kd.R_reads' HO_3.out).2.2 x5_2 p125 q125
                        cases e125
                        replace p125 := eq_true p125
                        replace q125 := eq_true q125
                        have p126 : 0 ≤ (x4_1 : Int) := of_decide_eq_true (by first | (with_reducible assumption) | assumption)
                        have q126 : x4_1 < (l0.length : Int) := of_decide_eq_true (by first | (with_reducible assumption) | assumption)
                        obtain ⟨ad126, e126, hx126_0, hx126_1⟩ := at_T31 HR0.out x4_1 p126 q126
                        cases e126
                        replace hx126_0 := (HB.out.cell (World.block_lt_of_cell? w _ hx126_0)).trans hx126_0
                        replace hx126_1 := (HB.out.cell (World.block_lt_of_cell? w _ hx126_1)).trans hx126_1
                        replace p126 := eq_true p126
                        replace q126 := eq_true q126
                        go_wp2
                        repeat (go_quiet (fail); try go_wp2)
                        go_roundg k2
                        case measure => have := HK1.out; have := HK2.out; omega
                        case rel => exact ⟨(wrap64 (x5_2 + 1)), (by first | rfl | (simp; done) | (simp [*]; done)), H', ⟨by have := HK1.out; have := HK2.out; omega⟩, ⟨by (with_reducible repeat (first | apply Kd.R_alloc | apply Kd.R_drewN | apply Kd.R_drew)); exact HO_3.out⟩, ⟨by repeat (first | (with_reducible first | exact HB.out | apply below_alloc | apply pw_below_drewN | apply below_drew1) | exact HB.out)⟩⟩
                      · rw [if_neg c8] at H
                        have c8b0 : (Op.bytesLess (((rd_T31 x3_1 x5_2).f0).toList) (((rd_T31 l0 x4_1).f0).toList)) = false := by simpa using c8
                        clear c8
                        have H' := Aside0.mk H
                        clear H
                        obtain ⟨Ao10, co10, eo10⟩ := Kd.R_slice HO_3.out
                        subst eo10
                        have p125 : 0 ≤ (x5_2 : Int) := of_decide_eq_true (by first | (with_reducible assumption) | assumption)
                        have q125 : x5_2 < (x3_1.length : Int) := of_decide_eq_true (by first | (with_reducible assumption) | assumption)
                        obtain ⟨ad125, e125, hx125_0, hx125_1⟩ := at_T31 (Kd.R_reads' HO_3.out).2.2 x5_2 p125 q125
                        cases e125
                        replace p125 := eq_true p125
                        replace q125 := eq_true q125
                        have p126 : 0 ≤ (x4_1 : Int) := of_decide_eq_true (by first | (with_reducible assumption) | assumption)
                        have q126 : x4_1 < (l0.length : Int) := of_decide_eq_true (by first | (with_reducible assumption) | assumption)
                        obtain ⟨ad126, e126, hx126_0, hx126_1⟩ := at_T31 HR0.out x4_1 p126 q126
                        cases e126
                        replace hx126_0 := (HB.out.cell (World.block_lt_of_cell? w _ hx126_0)).trans hx126_0
                        replace hx126_1 := (HB.out.cell (World.block_lt_of_cell? w _ hx126_1)).trans hx126_1
                        replace p126 := eq_true p126
                        replace q126 := eq_true q126
                        go_wp2
                        repeat (go_quiet (fail); try go_wp2)
                        go_meet
                        case rel => exact ⟨_, (x5_2), (by first | rfl | (simp; done) | (simp [*]; done)), H', ⟨by have := HK1.out; have := HK2.out; first | omega | exact Nat.le_refl _⟩, ⟨by (with_reducible repeat (first | apply Kd.R_alloc | apply Kd.R_drewN | apply Kd.R_drew)); exact HO_3.out⟩, ⟨by repeat (first | (with_reducible first | exact HB.out | apply below_alloc | apply pw_below_drewN | apply below_drew1) | exact HB.out)⟩⟩
                    · rw [if_neg c7] at H
                      exact absurd H (by simp)
                  · rw [if_neg c6] at H
                    exact absurd H (by simp)
                · rw [if_neg c5] at H
                  exact absurd H (by simp)
              · rw [if_neg c4] at H
                have c4b0 : decide (x5_2 < (x3_1.length : Int)) = false := decide_eq_false c4
                clear c4
                (first | rw [c4b0] | (simp only [i64_w, i32_w]; rw [c4b0]) | skip)
                have H' := Aside0.mk H
                clear H
                obtain ⟨Ao11, co11, eo11⟩ := Kd.R_slice HO_3.out
                subst eo11
                go_wp2
                repeat (go_quiet (fail); try go_wp2)
                go_meet
                case rel => exact ⟨_, (x5_2), (by first | rfl | (simp; done) | (simp [*]; done)), H', ⟨by have := HK1.out; have := HK2.out; first | omega | exact Nat.le_refl _⟩, ⟨by (with_reducible repeat (first | apply Kd.R_alloc | apply Kd.R_drewN | apply Kd.R_drew)); exact HO_3.out⟩, ⟨by repeat (first | (with_reducible first | exact HB.out | apply below_alloc | apply pw_below_drewN | apply below_drew1) | exact HB.out)⟩⟩
        case rest =>
          clear HC3
          try clear c1
          try clear p1
          try clear q1
          try clear hx1
          try clear c2
          try clear c2b0
          try clear p2
          try clear c4
          try clear c4b0
          try clear c5
          try clear c5b0
          try clear c6
          try clear c6b0
          try clear p6
          try clear c7
          try clear c7b0
          try clear c8
          try clear c8b0
          try clear hx125_0
          try clear hx125_1
          try clear hx126_0
          try clear hx126_1
          try clear p125
          try clear p126
          try clear p2
          try clear q125
          try clear q126
          obtain ⟨kq, x5_2, rfl, HA, HJ2, HO_3, HB⟩ := hcut
          cases kq with
          | zero => exact absurd HA.out (by simp [affluxlaw22_union.j2])
          | succ kj2 =>
            have H := HA.out
            clear HA
            simp only [affluxlaw22_union.j2] at H
            have HC12 := Aside0.mk H
            clear H
            go_upto_region 8 with (fail)
            repeat (go_quiet (fail); go_upto_region 8 with (fail))
            go_cut [48] (fun v48 wc => ∃ (kq : Nat) (x48_11 : Bool), v48 = .bool x48_11 ∧ Aside0 (affluxlaw22_union.j3 kq l0 x3_1 x4_1 x5_2 x48_11 = some r) ∧ Aside0 (kq ≤ kj2) ∧ Aside0 (Kd.R k31 31 wc w.heap.size (fun _ => True) u3 x3_1) ∧ Aside0 (Below w.heap.size w wc))
            case first =>
              have H := HC12.out
              clear HC12
              by_cases c13 : x5_2 < (x3_1.length : Int)
              · rw [if_pos c13] at H
                have c13b0 : decide (x5_2 < (x3_1.length : Int)) = true := decide_eq_true c13
                clear c13
                (first | rw [c13b0] | (simp only [i64_w, i32_w]; rw [c13b0]) | skip)
                by_cases c14 : 0 ≤ x5_2
                · rw [if_pos c14] at H
                  have c14b0 : decide (0 ≤ x5_2) = true := decide_eq_true c14
                  clear c14
                  by_cases c15 : 0 ≤ x4_1
                  · rw [if_pos c15] at H
                    have c15b0 : decide (0 ≤ x4_1) = true := decide_eq_true c15
                    clear c15
                    by_cases c16 : x4_1 < (l0.length : Int)
                    · rw [if_pos c16] at H
                      have c16b0 : decide (x4_1 < (l0.length : Int)) = true := decide_eq_true c16
                      clear c16
                      have H' := Aside0.mk H
                      clear H
                      obtain ⟨Ao17, co17, eo17⟩ := Kd.R_slice HO_3.out
                      subst eo17
                      have p127 : 0 ≤ (x5_2 : Int) := of_decide_eq_true (by first | (with_reducible assumption) | assumption)
                      have q127 : x5_2 < (x3_1.length : Int) := of_decide_eq_true (by first | (with_reducible assumption) | assumption)
                      obtain ⟨ad127, e127, hx127_0, hx127_1⟩ := at_T31 (Kd.R_reads' HO_3.out).2.2 x5_2 p127 q127
                      cases e127
                      replace p127 := eq_true p127
                      replace q127 := eq_true q127
                      have p128 : 0 ≤ (x4_1 : Int) := of_decide_eq_true (by first | (with_reducible assumption) | assumption)
                      have q128 : x4_1 < (l0.length : Int) := of_decide_eq_true (by first | (with_reducible assumption) | assumption)
                      obtain ⟨ad128, e128, hx128_0, hx128_1⟩ := at_T31 HR0.out x4_1 p128 q128
                      cases e128
                      replace hx128_0 := (HB.out.cell (World.block_lt_of_cell? w _ hx128_0)).trans hx128_0
                      replace hx128_1 := (HB.out.cell (World.block_lt_of_cell? w _ hx128_1)).trans hx128_1
                      replace p128 := eq_true p128
                      replace q128 := eq_true q128
                      go_wp2
                      repeat (go_quiet (fail); try go_wp2)
                      go_meet
                      case rel => exact ⟨_, ((((rd_T31 x3_1 x5_2).f0).toList == ((rd_T31 l0 x4_1).f0).toList)), (by first | rfl | (simp; done) | (simp [*]; done)), H', ⟨by have := HK1.out; have := HJ2.out; first | omega | exact Nat.le_refl _⟩, ⟨by (with_reducible repeat (first | apply Kd.R_alloc | apply Kd.R_drewN | apply Kd.R_drew)); exact HO_3.out⟩, ⟨by repeat (first | (with_reducible first | exact HB.out | apply below_alloc | apply pw_below_drewN | apply below_drew1) | exact HB.out)⟩⟩
                    · rw [if_neg c16] at H
                      exact absurd H (by simp)
                  · rw [if_neg c15] at H
                    exact absurd H (by simp)
                · rw [if_neg c14] at H
                  exact absurd H (by simp)
              · rw [if_neg c13] at H
                have c13b0 : decide (x5_2 < (x3_1.length : Int)) = false := decide_eq_false c13
                clear c13
                (first | rw [c13b0] | (simp only [i64_w, i32_w]; rw [c13b0]) | skip)
                have H' := Aside0.mk H
                clear H
                obtain ⟨Ao18, co18, eo18⟩ := Kd.R_slice HO_3.out
                subst eo18
                go_wp2
                repeat (go_quiet (fail); try go_wp2)
                go_meet
                case rel => exact ⟨_, (false), (by first | rfl | (simp; done) | (simp [*]; done)), H', ⟨by have := HK1.out; have := HJ2.out; first | omega | exact Nat.le_refl _⟩, ⟨by (with_reducible repeat (first | apply Kd.R_alloc | apply Kd.R_drewN | apply Kd.R_drew)); exact HO_3.out⟩, ⟨by repeat (first | (with_reducible first | exact HB.out | apply below_alloc | apply pw_below_drewN | apply below_drew1) | exact HB.out)⟩⟩
            case rest =>
              clear HC12
              try clear c1
              try clear p1
              try clear q1
              try clear hx1
              try clear c2
              try clear c2b0
              try clear p2
              try clear c4
              try clear c4b0
              try clear c5
              try clear c5b0
              try clear c6
              try clear c6b0
              try clear p6
              try clear c7
              try clear c7b0
              try clear c8
              try clear c8b0
              try clear c12
              try clear p12
              try clear q12
              try clear hx12
              try clear c13
              try clear c13b0
              try clear c14
              try clear c14b0
              try clear c15
              try clear c15b0
              try clear c16
              try clear c16b0
              try clear hx125_0
              try clear hx125_1
              try clear hx126_0
              try clear hx126_1
              try clear hx127_0
              try clear hx127_1
              try clear hx128_0
              try clear hx128_1
              try clear p1
              try clear p125
              try clear p126
              try clear p127
              try clear p128
              try clear p2
              try clear p6
              try clear q1
              try clear q125
              try clear q126
              try clear q127
              try clear q128
              obtain ⟨kq, x48_11, rfl, HA, HJ11, HO_3, HB⟩ := hcut
              cases kq with
              | zero => exact absurd HA.out (by simp [affluxlaw22_union.j3])
              | succ kj11 =>
                have H := HA.out
                clear HA
                simp only [affluxlaw22_union.j3] at H
                by_cases c19 : x48_11 = true
                · subst c19
                  have H1 : (if 0 ≤ x5_2 then (if x5_2 < (x3_1.length : Int) then (if (rd_T31 x3_1 x5_2).f1 = true then (affluxlaw22_union.l0 kj11 l0 (x3_1.set (x5_2 : Int).toNat (⟨(rd_T31 x3_1 x5_2).f0, true⟩ : S31)) (wrap64 (x4_1 + 1))) else (if 0 ≤ x4_1 then (if x4_1 < (l0.length : Int) then (affluxlaw22_union.l0 kj11 l0 (x3_1.set (x5_2 : Int).toNat (⟨(rd_T31 x3_1 x5_2).f0, (rd_T31 l0 x4_1).f1⟩ : S31)) (wrap64 (x4_1 + 1))) else (none)) else (none))) else (none)) else (none)) = some r := by rw [if_pos rfl] at H; exact H
                  clear H
                  have H := H1
                  clear H1
                  by_cases c20 : 0 ≤ x5_2
                  · rw [if_pos c20] at H
                    have c20b0 : decide (0 ≤ x5_2) = true := decide_eq_true c20
                    clear c20
                    by_cases c21 : x5_2 < (x3_1.length : Int)
                    · rw [if_pos c21] at H
                      have c21b0 : decide (x5_2 < (x3_1.length : Int)) = true := decide_eq_true c21
                      clear c21
                      obtain ⟨bq22, hbq22⟩ : ∃ b_ : Bool, b_ = ((rd_T31 x3_1 x5_2).f1) := ⟨_, rfl⟩
                      replace H : (if bq22 = true then (affluxlaw22_union.l0 kj11 l0 (x3_1.set (x5_2 : Int).toNat (⟨(rd_T31 x3_1 x5_2).f0, true⟩ : S31)) (wrap64 (x4_1 + 1))) else (if 0 ≤ x4_1 then (if x4_1 < (l0.length : Int) then (affluxlaw22_union.l0 kj11 l0 (x3_1.set (x5_2 : Int).toNat (⟨(rd_T31 x3_1 x5_2).f0, (rd_T31 l0 x4_1).f1⟩ : S31)) (wrap64 (x4_1 + 1))) else (none)) else (none))) = some r := by rw [← hbq22] at H; exact H
                      have Nbq22 := Aside0.mk hbq22
                      clear hbq22
                      by_cases c23 : bq22 = true
                      · subst c23
                        have H1 : (affluxlaw22_union.l0 kj11 l0 (x3_1.set (x5_2 : Int).toNat (⟨(rd_T31 x3_1 x5_2).f0, true⟩ : S31)) (wrap64 (x4_1 + 1))) = some r := by rw [if_pos rfl] at H; exact H
                        clear H
                        have H := H1
                        clear H1
                        obtain ⟨y130, hy130⟩ : ∃ y_ : List (S31), y_ = (x3_1.set (x5_2 : Int).toNat (⟨(rd_T31 x3_1 x5_2).f0, true⟩ : S31)) := ⟨_, rfl⟩
                        replace H : (affluxlaw22_union.l0 kj11 l0 y130 (wrap64 (x4_1 + 1))) = some r := by first | (rw [hy130]; with_reducible exact H) | (have H2_ := (Option.bind_some _ _).symm.trans H; rw [hy130]; with_reducible exact H2_) | (have H2_ := (Option.bind_some _ _).symm.trans H; with_reducible exact H2_) | with_reducible exact H | (rw [hy130]; exact H) | exact H
                        have Ny130 := Aside0.mk hy130
                        clear hy130
                        have H' := Aside0.mk H
                        clear H
                        obtain ⟨Ao25, co25, eo25⟩ := Kd.R_slice HO_3.out
                        subst eo25
                        have p129 : 0 ≤ (x5_2 : Int) := of_decide_eq_true (by first | (with_reducible assumption) | assumption)
                        have q129 : x5_2 < (x3_1.length : Int) := of_decide_eq_true (by first | (with_reducible assumption) | assumption)
                        obtain ⟨ad129, e129, hx129_0, hx129_1⟩ := at_T31 (Kd.R_reads' HO_3.out).2.2 x5_2 p129 q129
                        (try rw [← Nbq22.out] at hx129_1)
                        cases e129
                        replace p129 := eq_true p129
                        replace q129 := eq_true q129
                        have p24 : 0 ≤ (x5_2 : Int) := of_decide_eq_true (by first | (with_reducible assumption) | assumption)
                        have q24 : (x5_2 : Int) < ((x3_1.length : Int) : Int) := of_decide_eq_true (by first | (with_reducible assumption) | assumption)
                        obtain ⟨go24, co24, eo24, gb24, gl24, cl24, HG24⟩ := Kd.R_form HO_3.out (by omega)
                        (first | cases eo24 | (injection eo24 with ea_ en_ ec_; (first | subst ea_ | (injection ea_ with ea_; subst ea_)); subst ec_; clear en_))
                        have GB24 := Aside0.mk gb24
                        have GG24 := Aside0.mk HG24
                        clear gb24 gl24 HG24
                        (first | simp only [add_plain] at hx129_0 | skip)
                        (first | simp only [add_plain] at hx129_1 | skip)
                        obtain ⟨ce24, hcl24, hM24, hcc24, hfr24⟩ := Kd.R_elem HO_3.out z31 (x5_2 : Int) p24 q24
                        obtain rfl := k31_openM hM24
                        have hx24_0 : wc.cell? ⟨go24, (x5_2 : Int).toNat * 2, none⟩ = some (.string ((rd_T31 x3_1 x5_2).f0)) := hcc24 0 _ rfl
                        have hx24_1 : wc.cell? ⟨go24, (x5_2 : Int).toNat * 2 + 1, none⟩ = some (.bool ((rd_T31 x3_1 x5_2).f1)) := hcc24 1 _ rfl
                        have hf24_0 : wc.frozen? ⟨go24, (x5_2 : Int).toNat * 2, none⟩ = false := hfr24 0
                        have hf24_1 : wc.frozen? ⟨go24, (x5_2 : Int).toNat * 2 + 1, none⟩ = false := hfr24 1
                        clear hcl24 hcc24 hfr24 hM24
                        replace p24 := eq_true p24
                        replace q24 := eq_true q24
                        have HX26 := Aside0.mk (show Kd.R k31 31 wc w.heap.size (fun _ => True) (.slice (some ⟨go24, 0, none⟩) x3_1.length co25) x3_1 from (by (with_reducible repeat (first | apply Kd.R_alloc | apply Kd.R_drewN | apply Kd.R_drew)); exact HO_3.out))
                        obtain ⟨ce26, hcl26, hM26, hcc26, hfr26⟩ := Kd.R_elem HX26.out z31 (x5_2 : Int) (of_decide_eq_true (by first | (with_reducible assumption) | assumption)) (by have h_ : (x5_2 : Int) < ((x3_1.length : Int) : Int) := of_decide_eq_true (by first | (with_reducible assumption) | assumption); first | exact h_ | (have e_ := (Kd.R_reads' HO_3.out).1; omega) | simpa using h_)
                        obtain rfl := k31_openM hM26
                        have HP26 := Kd.R_seg HX26.out (x5_2 : Int) (of_decide_eq_true (by first | (with_reducible assumption) | assumption)) (by have h_ : (x5_2 : Int) < ((x3_1.length : Int) : Int) := of_decide_eq_true (by first | (with_reducible assumption) | assumption); first | exact h_ | (have e_ := (Kd.R_reads' HO_3.out).1; omega) | simpa using h_) (seg := [.bool true]) (j := 1) hcl26 hcc26 (show 2 ≤ 2 from by decide) (x' := (⟨(rd_T31 x3_1 x5_2).f0, true⟩ : S31)) (k31_mkM _ _ _ (⟨(rd_T31 x3_1 x5_2).f0, true⟩ : S31) ) (fun _ hk => hk)
                        have hx26_1 := hcc26 1 _ rfl
                        (try simp only [show (k31).sz = 2 from rfl, Nat.mul_one, Nat.add_zero] at hx26_1)
                        have hf26_1 := hfr26 1
                        (try simp only [show (k31).sz = 2 from rfl, Nat.mul_one, Nat.add_zero] at hf26_1)
                        clear hcl26 hcc26 hfr26 hM26
                        go_wp2_with (first | ((with_reducible refine gate_store (t := 4) (p := 64) rfl ?_); (try (rw [drewN_self wc]; generalize hq_ : World.drewN wc _ = wc; have n0_ := Aside0.mk (Kd.R_at hq_ HO_3.out); have n1_ := Aside0.mk (below_at hq_ HB.out); clear hq_ HO_3 HB; have HO_3 := n0_; have HB := n1_; clear n0_ n1_; (try (have HX26 := Aside0.mk (show Kd.R k31 31 wc w.heap.size (fun _ => True) (.slice (some ⟨go24, 0, none⟩) x3_1.length co25) x3_1 from (by (with_reducible repeat (first | apply Kd.R_alloc | apply Kd.R_drewN | apply Kd.R_drew)); exact HO_3.out)))); (try (obtain ⟨ce26, hcl26, hM26, hcc26, hfr26⟩ := Kd.R_elem HX26.out z31 (x5_2 : Int) (of_decide_eq_true (by first | (with_reducible assumption) | assumption)) (by have h_ : (x5_2 : Int) < ((x3_1.length : Int) : Int) := of_decide_eq_true (by first | (with_reducible assumption) | assumption); first | exact h_ | (have e_ := (Kd.R_reads' HO_3.out).1; omega) | simpa using h_))); (try (obtain rfl := k31_openM hM26)); (try (have HP26 := Kd.R_seg HX26.out (x5_2 : Int) (of_decide_eq_true (by first | (with_reducible assumption) | assumption)) (by have h_ : (x5_2 : Int) < ((x3_1.length : Int) : Int) := of_decide_eq_true (by first | (with_reducible assumption) | assumption); first | exact h_ | (have e_ := (Kd.R_reads' HO_3.out).1; omega) | simpa using h_) (seg := [.bool true]) (j := 1) hcl26 hcc26 (show 2 ≤ 2 from by decide) (x' := (⟨(rd_T31 x3_1 x5_2).f0, true⟩ : S31)) (k31_mkM _ _ _ (⟨(rd_T31 x3_1 x5_2).f0, true⟩ : S31) ) (fun _ hk => hk))); (try (have hx26_1 := hcc26 1 _ rfl)); (try (try simp only [show (k31).sz = 2 from rfl, Nat.mul_one, Nat.add_zero] at hx26_1)); (try (have hf26_1 := hfr26 1)); (try (try simp only [show (k31).sz = 2 from rfl, Nat.mul_one, Nat.add_zero] at hf26_1)); (try (clear hcl26 hcc26 hfr26 hM26)))); refine store_event (t := 4) (p := 64) (v := ?vo_w27) (w1 := (wc.setCell ⟨go24, (x5_2 : Int).toNat * 2 + 1, none⟩ (.bool true))) ?hg ?ho ?hn ?hr ?_; (case ho => rfl); (case hg => rfl); (case hn => rfl); (case hr => first | (go_simp; done) | (go_simp; rfl)); intro w27 hw; have hg : wc.grownBy w27 (some go24) := (by rw [hw]; exact HP26.2); have hp_ : Kd.R k31 31 w27 w.heap.size (fun _ => True) (.slice (some ⟨go24, 0, none⟩) x3_1.length co25) y130 := (by rw [hw, Ny130.out]; exact HP26.1); clear HP26; have n0_ := Aside0.mk (hp_); have n1_ := Aside0.mk ((by rw [hw]; exact below_set (HB.out) GB24.out : Below w.heap.size w w27)); clear HO_3; clear HB; have HO_3 := n0_; have HB := n1_; clear n0_ n1_; clear hg hw hp_))
                        repeat (go_quiet (first | ((with_reducible refine gate_store (t := 4) (p := 64) rfl ?_); (try (rw [drewN_self wc]; generalize hq_ : World.drewN wc _ = wc; have n0_ := Aside0.mk (Kd.R_at hq_ HO_3.out); have n1_ := Aside0.mk (below_at hq_ HB.out); clear hq_ HO_3 HB; have HO_3 := n0_; have HB := n1_; clear n0_ n1_; (try (have HX26 := Aside0.mk (show Kd.R k31 31 wc w.heap.size (fun _ => True) (.slice (some ⟨go24, 0, none⟩) x3_1.length co25) x3_1 from (by (with_reducible repeat (first | apply Kd.R_alloc | apply Kd.R_drewN | apply Kd.R_drew)); exact HO_3.out)))); (try (obtain ⟨ce26, hcl26, hM26, hcc26, hfr26⟩ := Kd.R_elem HX26.out z31 (x5_2 : Int) (of_decide_eq_true (by first | (with_reducible assumption) | assumption)) (by have h_ : (x5_2 : Int) < ((x3_1.length : Int) : Int) := of_decide_eq_true (by first | (with_reducible assumption) | assumption); first | exact h_ | (have e_ := (Kd.R_reads' HO_3.out).1; omega) | simpa using h_))); (try (obtain rfl := k31_openM hM26)); (try (have HP26 := Kd.R_seg HX26.out (x5_2 : Int) (of_decide_eq_true (by first | (with_reducible assumption) | assumption)) (by have h_ : (x5_2 : Int) < ((x3_1.length : Int) : Int) := of_decide_eq_true (by first | (with_reducible assumption) | assumption); first | exact h_ | (have e_ := (Kd.R_reads' HO_3.out).1; omega) | simpa using h_) (seg := [.bool true]) (j := 1) hcl26 hcc26 (show 2 ≤ 2 from by decide) (x' := (⟨(rd_T31 x3_1 x5_2).f0, true⟩ : S31)) (k31_mkM _ _ _ (⟨(rd_T31 x3_1 x5_2).f0, true⟩ : S31) ) (fun _ hk => hk))); (try (have hx26_1 := hcc26 1 _ rfl)); (try (try simp only [show (k31).sz = 2 from rfl, Nat.mul_one, Nat.add_zero] at hx26_1)); (try (have hf26_1 := hfr26 1)); (try (try simp only [show (k31).sz = 2 from rfl, Nat.mul_one, Nat.add_zero] at hf26_1)); (try (clear hcl26 hcc26 hfr26 hM26)))); refine store_event (t := 4) (p := 64) (v := ?vo_w27) (w1 := (wc.setCell ⟨go24, (x5_2 : Int).toNat * 2 + 1, none⟩ (.bool true))) ?hg ?ho ?hn ?hr ?_; (case ho => rfl); (case hg => rfl); (case hn => rfl); (case hr => first | (go_simp; done) | (go_simp; rfl)); intro w27 hw; have hg : wc.grownBy w27 (some go24) := (by rw [hw]; exact HP26.2); have hp_ : Kd.R k31 31 w27 w.heap.size (fun _ => True) (.slice (some ⟨go24, 0, none⟩) x3_1.length co25) y130 := (by rw [hw, Ny130.out]; exact HP26.1); clear HP26; have n0_ := Aside0.mk (hp_); have n1_ := Aside0.mk ((by rw [hw]; exact below_set (HB.out) GB24.out : Below w.heap.size w w27)); clear HO_3; clear HB; have HO_3 := n0_; have HB := n1_; clear n0_ n1_; clear hg hw hp_)); try go_wp2_with (first | ((with_reducible refine gate_store (t := 4) (p := 64) rfl ?_); (try (rw [drewN_self wc]; generalize hq_ : World.drewN wc _ = wc; have n0_ := Aside0.mk (Kd.R_at hq_ HO_3.out); have n1_ := Aside0.mk (below_at hq_ HB.out); clear hq_ HO_3 HB; have HO_3 := n0_; have HB := n1_; clear n0_ n1_; (try (have HX26 := Aside0.mk (show Kd.R k31 31 wc w.heap.size (fun _ => True) (.slice (some ⟨go24, 0, none⟩) x3_1.length co25) x3_1 from (by (with_reducible repeat (first | apply Kd.R_alloc | apply Kd.R_drewN | apply Kd.R_drew)); exact HO_3.out)))); (try (obtain ⟨ce26, hcl26, hM26, hcc26, hfr26⟩ := Kd.R_elem HX26.out z31 (x5_2 : Int) (of_decide_eq_true (by first | (with_reducible assumption) | assumption)) (by have h_ : (x5_2 : Int) < ((x3_1.length : Int) : Int) := of_decide_eq_true (by first | (with_reducible assumption) | assumption); first | exact h_ | (have e_ := (Kd.R_reads' HO_3.out).1; omega) | simpa using h_))); (try (obtain rfl := k31_openM hM26)); (try (have HP26 := Kd.R_seg HX26.out (x5_2 : Int) (of_decide_eq_true (by first | (with_reducible assumption) | assumption)) (by have h_ : (x5_2 : Int) < ((x3_1.length : Int) : Int) := of_decide_eq_true (by first | (with_reducible assumption) | assumption); first | exact h_ | (have e_ := (Kd.R_reads' HO_3.out).1; omega) | simpa using h_) (seg := [.bool true]) (j := 1) hcl26 hcc26 (show 2 ≤ 2 from by decide) (x' := (⟨(rd_T31 x3_1 x5_2).f0, true⟩ : S31)) (k31_mkM _ _ _ (⟨(rd_T31 x3_1 x5_2).f0, true⟩ : S31) ) (fun _ hk => hk))); (try (have hx26_1 := hcc26 1 _ rfl)); (try (try simp only [show (k31).sz = 2 from rfl, Nat.mul_one, Nat.add_zero] at hx26_1)); (try (have hf26_1 := hfr26 1)); (try (try simp only [show (k31).sz = 2 from rfl, Nat.mul_one, Nat.add_zero] at hf26_1)); (try (clear hcl26 hcc26 hfr26 hM26)))); refine store_event (t := 4) (p := 64) (v := ?vo_w27) (w1 := (wc.setCell ⟨go24, (x5_2 : Int).toNat * 2 + 1, none⟩ (.bool true))) ?hg ?ho ?hn ?hr ?_; (case ho => rfl); (case hg => rfl); (case hn => rfl); (case hr => first | (go_simp; done) | (go_simp; rfl)); intro w27 hw; have hg : wc.grownBy w27 (some go24) := (by rw [hw]; exact HP26.2); have hp_ : Kd.R k31 31 w27 w.heap.size (fun _ => True) (.slice (some ⟨go24, 0, none⟩) x3_1.length co25) y130 := (by rw [hw, Ny130.out]; exact HP26.1); clear HP26; have n0_ := Aside0.mk (hp_); have n1_ := Aside0.mk ((by rw [hw]; exact below_set (HB.out) GB24.out : Below w.heap.size w w27)); clear HO_3; clear HB; have HO_3 := n0_; have HB := n1_; clear n0_ n1_; clear hg hw hp_)))
                        go_roundg kj11
                        case measure => have := HK1.out; have := HJ2.out; have := HJ11.out; omega
                        case rel => exact ⟨(y130), (wrap64 (x4_1 + 1)), (by first | rfl | (simp; done) | (simp [*]; done)), H', ⟨by have := HK1.out; have := HJ2.out; have := HJ11.out; omega⟩, ⟨by (with_reducible repeat (first | apply Kd.R_alloc | apply Kd.R_drewN | apply Kd.R_drew)); exact HO_3.out⟩, ⟨by repeat (first | (with_reducible first | exact HB.out | apply below_alloc | apply pw_below_drewN | apply below_drew1) | exact HB.out)⟩⟩
                      · replace c23 := Bool.eq_false_iff.mpr c23
                        subst c23
                        have H1 : (if 0 ≤ x4_1 then (if x4_1 < (l0.length : Int) then (affluxlaw22_union.l0 kj11 l0 (x3_1.set (x5_2 : Int).toNat (⟨(rd_T31 x3_1 x5_2).f0, (rd_T31 l0 x4_1).f1⟩ : S31)) (wrap64 (x4_1 + 1))) else (none)) else (none)) = some r := by rw [if_neg (show ¬ (false = true) by decide)] at H; exact H
                        clear H
                        have H := H1
                        clear H1
                        by_cases c28 : 0 ≤ x4_1
                        · rw [if_pos c28] at H
                          have c28b0 : decide (0 ≤ x4_1) = true := decide_eq_true c28
                          clear c28
                          by_cases c29 : x4_1 < (l0.length : Int)
                          · rw [if_pos c29] at H
                            have c29b0 : decide (x4_1 < (l0.length : Int)) = true := decide_eq_true c29
                            clear c29
                            obtain ⟨y132, hy132⟩ : ∃ y_ : List (S31), y_ = (x3_1.set (x5_2 : Int).toNat (⟨(rd_T31 x3_1 x5_2).f0, (rd_T31 l0 x4_1).f1⟩ : S31)) := ⟨_, rfl⟩
                            replace H : (affluxlaw22_union.l0 kj11 l0 y132 (wrap64 (x4_1 + 1))) = some r := by first | (rw [hy132]; with_reducible exact H) | (have H2_ := (Option.bind_some _ _).symm.trans H; rw [hy132]; with_reducible exact H2_) | (have H2_ := (Option.bind_some _ _).symm.trans H; with_reducible exact H2_) | with_reducible exact H | (rw [hy132]; exact H) | exact H
                            have Ny132 := Aside0.mk hy132
                            clear hy132
                            have H' := Aside0.mk H
                            clear H
                            obtain ⟨Ao31, co31, eo31⟩ := Kd.R_slice HO_3.out
                            subst eo31
                            have p129 : 0 ≤ (x5_2 : Int) := of_decide_eq_true (by first | (with_reducible assumption) | assumption)
                            have q129 : x5_2 < (x3_1.length : Int) := of_decide_eq_true (by first | (with_reducible assumption) | assumption)
                            obtain ⟨ad129, e129, hx129_0, hx129_1⟩ := at_T31 (Kd.R_reads' HO_3.out).2.2 x5_2 p129 q129
                            (try rw [← Nbq22.out] at hx129_1)
                            cases e129
                            replace p129 := eq_true p129
                            replace q129 := eq_true q129
                            have p131 : 0 ≤ (x4_1 : Int) := of_decide_eq_true (by first | (with_reducible assumption) | assumption)
                            have q131 : x4_1 < (l0.length : Int) := of_decide_eq_true (by first | (with_reducible assumption) | assumption)
                            obtain ⟨ad131, e131, hx131_0, hx131_1⟩ := at_T31 HR0.out x4_1 p131 q131
                            (try rw [← Nbq22.out] at hx131_1)
                            cases e131
                            replace hx131_0 := (HB.out.cell (World.block_lt_of_cell? w _ hx131_0)).trans hx131_0
                            replace hx131_1 := (HB.out.cell (World.block_lt_of_cell? w _ hx131_1)).trans hx131_1
                            replace p131 := eq_true p131
                            replace q131 := eq_true q131
                            have p30 : 0 ≤ (x5_2 : Int) := of_decide_eq_true (by first | (with_reducible assumption) | assumption)
                            have q30 : (x5_2 : Int) < ((x3_1.length : Int) : Int) := of_decide_eq_true (by first | (with_reducible assumption) | assumption)
                            obtain ⟨go30, co30, eo30, gb30, gl30, cl30, HG30⟩ := Kd.R_form HO_3.out (by omega)
                            (first | cases eo30 | (injection eo30 with ea_ en_ ec_; (first | subst ea_ | (injection ea_ with ea_; subst ea_)); subst ec_; clear en_))
                            have GB30 := Aside0.mk gb30
                            have GG30 := Aside0.mk HG30
                            clear gb30 gl30 HG30
                            (first | simp only [add_plain] at hx129_0 | skip)
                            (first | simp only [add_plain] at hx129_1 | skip)
                            obtain ⟨ce30, hcl30, hM30, hcc30, hfr30⟩ := Kd.R_elem HO_3.out z31 (x5_2 : Int) p30 q30
                            obtain rfl := k31_openM hM30
                            have hx30_0 : wc.cell? ⟨go30, (x5_2 : Int).toNat * 2, none⟩ = some (.string ((rd_T31 x3_1 x5_2).f0)) := hcc30 0 _ rfl
                            have hx30_1 : wc.cell? ⟨go30, (x5_2 : Int).toNat * 2 + 1, none⟩ = some (.bool ((rd_T31 x3_1 x5_2).f1)) := hcc30 1 _ rfl
                            have hf30_0 : wc.frozen? ⟨go30, (x5_2 : Int).toNat * 2, none⟩ = false := hfr30 0
                            have hf30_1 : wc.frozen? ⟨go30, (x5_2 : Int).toNat * 2 + 1, none⟩ = false := hfr30 1
                            clear hcl30 hcc30 hfr30 hM30
                            replace p30 := eq_true p30
                            replace q30 := eq_true q30
                            have HX32 := Aside0.mk (show Kd.R k31 31 wc w.heap.size (fun _ => True) (.slice (some ⟨go30, 0, none⟩) x3_1.length co31) x3_1 from (by (with_reducible repeat (first | apply Kd.R_alloc | apply Kd.R_drewN | apply Kd.R_drew)); exact HO_3.out))
                            obtain ⟨ce32, hcl32, hM32, hcc32, hfr32⟩ := Kd.R_elem HX32.out z31 (x5_2 : Int) (of_decide_eq_true (by first | (with_reducible assumption) | assumption)) (by have h_ : (x5_2 : Int) < ((x3_1.length : Int) : Int) := of_decide_eq_true (by first | (with_reducible assumption) | assumption); first | exact h_ | (have e_ := (Kd.R_reads' HO_3.out).1; omega) | simpa using h_)
                            obtain rfl := k31_openM hM32
                            have HP32 := Kd.R_seg HX32.out (x5_2 : Int) (of_decide_eq_true (by first | (with_reducible assumption) | assumption)) (by have h_ : (x5_2 : Int) < ((x3_1.length : Int) : Int) := of_decide_eq_true (by first | (with_reducible assumption) | assumption); first | exact h_ | (have e_ := (Kd.R_reads' HO_3.out).1; omega) | simpa using h_) (seg := [.bool ((rd_T31 l0 x4_1).f1)]) (j := 1) hcl32 hcc32 (show 2 ≤ 2 from by decide) (x' := (⟨(rd_T31 x3_1 x5_2).f0, (rd_T31 l0 x4_1).f1⟩ : S31)) (k31_mkM _ _ _ (⟨(rd_T31 x3_1 x5_2).f0, (rd_T31 l0 x4_1).f1⟩ : S31) ) (fun _ hk => hk)
                            have hx32_1 := hcc32 1 _ rfl
                            (try simp only [show (k31).sz = 2 from rfl, Nat.mul_one, Nat.add_zero] at hx32_1)
                            have hf32_1 := hfr32 1
                            (try simp only [show (k31).sz = 2 from rfl, Nat.mul_one, Nat.add_zero] at hf32_1)
                            clear hcl32 hcc32 hfr32 hM32
                            go_wp2_with (first | ((with_reducible refine gate_store (t := 4) (p := 64) rfl ?_); (try (rw [drewN_self wc]; generalize hq_ : World.drewN wc _ = wc; have n0_ := Aside0.mk (Kd.R_at hq_ HO_3.out); have n1_ := Aside0.mk (below_at hq_ HB.out); clear hq_ HO_3 HB; have HO_3 := n0_; have HB := n1_; clear n0_ n1_; (try (have HX32 := Aside0.mk (show Kd.R k31 31 wc w.heap.size (fun _ => True) (.slice (some ⟨go30, 0, none⟩) x3_1.length co31) x3_1 from (by (with_reducible repeat (first | apply Kd.R_alloc | apply Kd.R_drewN | apply Kd.R_drew)); exact HO_3.out)))); (try (obtain ⟨ce32, hcl32, hM32, hcc32, hfr32⟩ := Kd.R_elem HX32.out z31 (x5_2 : Int) (of_decide_eq_true (by first | (with_reducible assumption) | assumption)) (by have h_ : (x5_2 : Int) < ((x3_1.length : Int) : Int) := of_decide_eq_true (by first | (with_reducible assumption) | assumption); first | exact h_ | (have e_ := (Kd.R_reads' HO_3.out).1; omega) | simpa using h_))); (try (obtain rfl := k31_openM hM32)); (try (have HP32 := Kd.R_seg HX32.out (x5_2 : Int) (of_decide_eq_true (by first | (with_reducible assumption) | assumption)) (by have h_ : (x5_2 : Int) < ((x3_1.length : Int) : Int) := of_decide_eq_true (by first | (with_reducible assumption) | assumption); first | exact h_ | (have e_ := (Kd.R_reads' HO_3.out).1; omega) | simpa using h_) (seg := [.bool ((rd_T31 l0 x4_1).f1)]) (j := 1) hcl32 hcc32 (show 2 ≤ 2 from by decide) (x' := (⟨(rd_T31 x3_1 x5_2).f0, (rd_T31 l0 x4_1).f1⟩ : S31)) (k31_mkM _ _ _ (⟨(rd_T31 x3_1 x5_2).f0, (rd_T31 l0 x4_1).f1⟩ : S31) ) (fun _ hk => hk))); (try (have hx32_1 := hcc32 1 _ rfl)); (try (try simp only [show (k31).sz = 2 from rfl, Nat.mul_one, Nat.add_zero] at hx32_1)); (try (have hf32_1 := hfr32 1)); (try (try simp only [show (k31).sz = 2 from rfl, Nat.mul_one, Nat.add_zero] at hf32_1)); (try (clear hcl32 hcc32 hfr32 hM32)))); refine store_event (t := 4) (p := 64) (v := ?vo_w33) (w1 := (wc.setCell ⟨go30, (x5_2 : Int).toNat * 2 + 1, none⟩ (.bool ((rd_T31 l0 x4_1).f1)))) ?hg ?ho ?hn ?hr ?_; (case ho => rfl); (case hg => rfl); (case hn => rfl); (case hr => first | (go_simp; done) | (go_simp; rfl)); intro w33 hw; have hg : wc.grownBy w33 (some go30) := (by rw [hw]; exact HP32.2); have hp_ : Kd.R k31 31 w33 w.heap.size (fun _ => True) (.slice (some ⟨go30, 0, none⟩) x3_1.length co31) y132 := (by rw [hw, Ny132.out]; exact HP32.1); clear HP32; have n0_ := Aside0.mk (hp_); have n1_ := Aside0.mk ((by rw [hw]; exact below_set (HB.out) GB30.out : Below w.heap.size w w33)); clear HO_3; clear HB; have HO_3 := n0_; have HB := n1_; clear n0_ n1_; clear hg hw hp_))
                            repeat (go_quiet (first | ((with_reducible refine gate_store (t := 4) (p := 64) rfl ?_); (try (rw [drewN_self wc]; generalize hq_ : World.drewN wc _ = wc; have n0_ := Aside0.mk (Kd.R_at hq_ HO_3.out); have n1_ := Aside0.mk (below_at hq_ HB.out); clear hq_ HO_3 HB; have HO_3 := n0_; have HB := n1_; clear n0_ n1_; (try (have HX32 := Aside0.mk (show Kd.R k31 31 wc w.heap.size (fun _ => True) (.slice (some ⟨go30, 0, none⟩) x3_1.length co31) x3_1 from (by (with_reducible repeat (first | apply Kd.R_alloc | apply Kd.R_drewN | apply Kd.R_drew)); exact HO_3.out)))); (try (obtain ⟨ce32, hcl32, hM32, hcc32, hfr32⟩ := Kd.R_elem HX32.out z31 (x5_2 : Int) (of_decide_eq_true (by first | (with_reducible assumption) | assumption)) (by have h_ : (x5_2 : Int) < ((x3_1.length : Int) : Int) := of_decide_eq_true (by first | (with_reducible assumption) | assumption); first | exact h_ | (have e_ := (Kd.R_reads' HO_3.out).1; omega) | simpa using h_))); (try (obtain rfl := k31_openM hM32)); (try (have HP32 := Kd.R_seg HX32.out (x5_2 : Int) (of_decide_eq_true (by first | (with_reducible assumption) | assumption)) (by have h_ : (x5_2 : Int) < ((x3_1.length : Int) : Int) := of_decide_eq_true (by first | (with_reducible assumption) | assumption); first | exact h_ | (have e_ := (Kd.R_reads' HO_3.out).1; omega) | simpa using h_) (seg := [.bool ((rd_T31 l0 x4_1).f1)]) (j := 1) hcl32 hcc32 (show 2 ≤ 2 from by decide) (x' := (⟨(rd_T31 x3_1 x5_2).f0, (rd_T31 l0 x4_1).f1⟩ : S31)) (k31_mkM _ _ _ (⟨(rd_T31 x3_1 x5_2).f0, (rd_T31 l0 x4_1).f1⟩ : S31) ) (fun _ hk => hk))); (try (have hx32_1 := hcc32 1 _ rfl)); (try (try simp only [show (k31).sz = 2 from rfl, Nat.mul_one, Nat.add_zero] at hx32_1)); (try (have hf32_1 := hfr32 1)); (try (try simp only [show (k31).sz = 2 from rfl, Nat.mul_one, Nat.add_zero] at hf32_1)); (try (clear hcl32 hcc32 hfr32 hM32)))); refine store_event (t := 4) (p := 64) (v := ?vo_w33) (w1 := (wc.setCell ⟨go30, (x5_2 : Int).toNat * 2 + 1, none⟩ (.bool ((rd_T31 l0 x4_1).f1)))) ?hg ?ho ?hn ?hr ?_; (case ho => rfl); (case hg => rfl); (case hn => rfl); (case hr => first | (go_simp; done) | (go_simp; rfl)); intro w33 hw; have hg : wc.grownBy w33 (some go30) := (by rw [hw]; exact HP32.2); have hp_ : Kd.R k31 31 w33 w.heap.size (fun _ => True) (.slice (some ⟨go30, 0, none⟩) x3_1.length co31) y132 := (by rw [hw, Ny132.out]; exact HP32.1); clear HP32; have n0_ := Aside0.mk (hp_); have n1_ := Aside0.mk ((by rw [hw]; exact below_set (HB.out) GB30.out : Below w.heap.size w w33)); clear HO_3; clear HB; have HO_3 := n0_; have HB := n1_; clear n0_ n1_; clear hg hw hp_)); try go_wp2_with (first | ((with_reducible refine gate_store (t := 4) (p := 64) rfl ?_); (try (rw [drewN_self wc]; generalize hq_ : World.drewN wc _ = wc; have n0_ := Aside0.mk (Kd.R_at hq_ HO_3.out); have n1_ := Aside0.mk (below_at hq_ HB.out); clear hq_ HO_3 HB; have HO_3 := n0_; have HB := n1_; clear n0_ n1_; (try (have HX32 := Aside0.mk (show Kd.R k31 31 wc w.heap.size (fun _ => True) (.slice (some ⟨go30, 0, none⟩) x3_1.length co31) x3_1 from (by (with_reducible repeat (first | apply Kd.R_alloc | apply Kd.R_drewN | apply Kd.R_drew)); exact HO_3.out)))); (try (obtain ⟨ce32, hcl32, hM32, hcc32, hfr32⟩ := Kd.R_elem HX32.out z31 (x5_2 : Int) (of_decide_eq_true (by first | (with_reducible assumption) | assumption)) (by have h_ : (x5_2 : Int) < ((x3_1.length : Int) : Int) := of_decide_eq_true (by first | (with_reducible assumption) | assumption); first | exact h_ | (have e_ := (Kd.R_reads' HO_3.out).1; omega) | simpa using h_))); (try (obtain rfl := k31_openM hM32)); (try (have HP32 := Kd.R_seg HX32.out (x5_2 : Int) (of_decide_eq_true (by first | (with_reducible assumption) | assumption)) (by have h_ : (x5_2 : Int) < ((x3_1.length : Int) : Int) := of_decide_eq_true (by first | (with_reducible assumption) | assumption); first | exact h_ | (have e_ := (Kd.R_reads' HO_3.out).1; omega) | simpa using h_) (seg := [.bool ((rd_T31 l0 x4_1).f1)]) (j := 1) hcl32 hcc32 (show 2 ≤ 2 from by decide) (x' := (⟨(rd_T31 x3_1 x5_2).f0, (rd_T31 l0 x4_1).f1⟩ : S31)) (k31_mkM _ _ _ (⟨(rd_T31 x3_1 x5_2).f0, (rd_T31 l0 x4_1).f1⟩ : S31) ) (fun _ hk => hk))); (try (have hx32_1 := hcc32 1 _ rfl)); (try (try simp only [show (k31).sz = 2 from rfl, Nat.mul_one, Nat.add_zero] at hx32_1)); (try (have hf32_1 := hfr32 1)); (try (try simp only [show (k31).sz = 2 from rfl, Nat.mul_one, Nat.add_zero] at hf32_1)); (try (clear hcl32 hcc32 hfr32 hM32)))); refine store_event (t := 4) (p := 64) (v := ?vo_w33) (w1 := (wc.setCell ⟨go30, (x5_2 : Int).toNat * 2 + 1, none⟩ (.bool ((rd_T31 l0 x4_1).f1)))) ?hg ?ho ?hn ?hr ?_; (case ho => rfl); (case hg => rfl); (case hn => rfl); (case hr => first | (go_simp; done) | (go_simp; rfl)); intro w33 hw; have hg : wc.grownBy w33 (some go30) := (by rw [hw]; exact HP32.2); have hp_ : Kd.R k31 31 w33 w.heap.size (fun _ => True) (.slice (some ⟨go30, 0, none⟩) x3_1.length co31) y132 := (by rw [hw, Ny132.out]; exact HP32.1); clear HP32; have n0_ := Aside0.mk (hp_); have n1_ := Aside0.mk ((by rw [hw]; exact below_set (HB.out) GB30.out : Below w.heap.size w w33)); clear HO_3; clear HB; have HO_3 := n0_; have HB := n1_; clear n0_ n1_; clear hg hw hp_)))
                            go_roundg kj11
                            case measure => have := HK1.out; have := HJ2.out; have := HJ11.out; omega
                            case rel => exact ⟨(y132), (wrap64 (x4_1 + 1)), (by first | rfl | (simp; done) | (simp [*]; done)), H', ⟨by have := HK1.out; have := HJ2.out; have := HJ11.out; omega⟩, ⟨by (with_reducible repeat (first | apply Kd.R_alloc | apply Kd.R_drewN | apply Kd.R_drew)); exact HO_3.out⟩, ⟨by repeat (first | (with_reducible first | exact HB.out | apply below_alloc | apply pw_below_drewN | apply below_drew1) | exact HB.out)⟩⟩
                          · rw [if_neg c29] at H
                            exact absurd H (by simp)
                        · rw [if_neg c28] at H
                          exact absurd H (by simp)
                    · rw [if_neg c21] at H
                      exact absurd H (by simp)
                  · rw [if_neg c20] at H
                    exact absurd H (by simp)
                · replace c19 := Bool.eq_false_iff.mpr c19
                  subst c19
                  have H1 : (if x3_1.length < 5864062014805 then ((some (x3_1 ++ [(⟨(⟨#[]⟩ : ByteArray), false⟩ : S31)] : List (S31))).bind fun y133 => (affluxlaw22_union.l2 kj11 l0 y133 x4_1 x5_2 (wrap64 ((y133.length : Int) - 1)))) else (none)) = some r := by rw [if_neg (show ¬ (false = true) by decide)] at H; exact H
                  clear H
                  have H := H1
                  clear H1
                  by_cases c34 : x3_1.length < 5864062014805
                  · rw [if_pos c34] at H
                    have LMc34 := Aside0.mk c34
                    clear c34
                    obtain ⟨y133, hy133⟩ : ∃ y_ : List (S31), y_ = (x3_1 ++ [(⟨(⟨#[]⟩ : ByteArray), false⟩ : S31)]) := ⟨_, rfl⟩
                    replace H : (affluxlaw22_union.l2 kj11 l0 y133 x4_1 x5_2 (wrap64 ((y133.length : Int) - 1))) = some r := by first | (rw [hy133]; with_reducible exact H) | (have H2_ := (Option.bind_some _ _).symm.trans H; rw [hy133]; with_reducible exact H2_) | (have H2_ := (Option.bind_some _ _).symm.trans H; with_reducible exact H2_) | with_reducible exact H | (rw [hy133]; exact H) | exact H
                    have Ny133 := Aside0.mk hy133
                    clear hy133
                    have H' := Aside0.mk H
                    clear H
                    go_wp2_with (first | ((with_reducible refine gate_builtin (b := .append) (xs := #[.tmp 65, .tmp 67]) rfl ?_); at_builtin; refine Kd.R_append k31 (w0 := w) w.heap.size rfl (.tmp 65) (.tmp 67) 22 31 (.agg #[(.string ⟨#[]⟩), (.bool false)]) 24 rfl Try.underlying22 info31 rfl (by decide) (by omega) u3 x3_1 (⟨(⟨#[]⟩ : ByteArray), false⟩ : S31) [.string (⟨#[]⟩ : ByteArray), .bool false] (fun _ => True) (fun _ => False) rfl rfl ?aP (fun _ hk => hk.elim) ?aF ?aO ?aB ?aS ?aL ?_; (case aP => exact k31_mkM _ _ _ (⟨(⟨#[]⟩ : ByteArray), false⟩ : S31)); (case aB => exact (by repeat (first | (with_reducible first | exact HB.out | apply below_alloc | apply pw_below_drewN | apply below_drew1) | exact HB.out))); (case aF => exact (fun _ _ => trivial)); (case aO => exact (by (with_reducible repeat (first | apply Kd.R_alloc | apply Kd.R_drewN | apply Kd.R_drew)); exact HO_3.out)); (case aS => exact (below_size (by repeat (first | (with_reducible first | exact HB.out | apply below_alloc | apply pw_below_drewN | apply below_drew1) | exact HB.out)))); (case aL => have := LMc34.out; omega); intro v134 w35 ho hb hg hat; rw [← Ny133.out] at ho; have n0_ := Aside0.mk (hb); have n1_ := Aside0.mk (ho); clear HB; clear HO_3; have HB := n0_; have HO135 := n1_; clear n0_ n1_; clear ho hb hg hat; obtain ⟨Ao36, co36, eo36⟩ := Kd.R_slice HO135.out; subst eo36))
                    repeat (go_quiet (first | ((with_reducible refine gate_builtin (b := .append) (xs := #[.tmp 65, .tmp 67]) rfl ?_); at_builtin; refine Kd.R_append k31 (w0 := w) w.heap.size rfl (.tmp 65) (.tmp 67) 22 31 (.agg #[(.string ⟨#[]⟩), (.bool false)]) 24 rfl Try.underlying22 info31 rfl (by decide) (by omega) u3 x3_1 (⟨(⟨#[]⟩ : ByteArray), false⟩ : S31) [.string (⟨#[]⟩ : ByteArray), .bool false] (fun _ => True) (fun _ => False) rfl rfl ?aP (fun _ hk => hk.elim) ?aF ?aO ?aB ?aS ?aL ?_; (case aP => exact k31_mkM _ _ _ (⟨(⟨#[]⟩ : ByteArray), false⟩ : S31)); (case aB => exact (by repeat (first | (with_reducible first | exact HB.out | apply below_alloc | apply pw_below_drewN | apply below_drew1) | exact HB.out))); (case aF => exact (fun _ _ => trivial)); (case aO => exact (by (with_reducible repeat (first | apply Kd.R_alloc | apply Kd.R_drewN | apply Kd.R_drew)); exact HO_3.out)); (case aS => exact (below_size (by repeat (first | (with_reducible first | exact HB.out | apply below_alloc | apply pw_below_drewN | apply below_drew1) | exact HB.out)))); (case aL => have := LMc34.out; omega); intro v134 w35 ho hb hg hat; rw [← Ny133.out] at ho; have n0_ := Aside0.mk (hb); have n1_ := Aside0.mk (ho); clear HB; clear HO_3; have HB := n0_; have HO135 := n1_; clear n0_ n1_; clear ho hb hg hat; obtain ⟨Ao36, co36, eo36⟩ := Kd.R_slice HO135.out; subst eo36)); try go_wp2_with (first | ((with_reducible refine gate_builtin (b := .append) (xs := #[.tmp 65, .tmp 67]) rfl ?_); at_builtin; refine Kd.R_append k31 (w0 := w) w.heap.size rfl (.tmp 65) (.tmp 67) 22 31 (.agg #[(.string ⟨#[]⟩), (.bool false)]) 24 rfl Try.underlying22 info31 rfl (by decide) (by omega) u3 x3_1 (⟨(⟨#[]⟩ : ByteArray), false⟩ : S31) [.string (⟨#[]⟩ : ByteArray), .bool false] (fun _ => True) (fun _ => False) rfl rfl ?aP (fun _ hk => hk.elim) ?aF ?aO ?aB ?aS ?aL ?_; (case aP => exact k31_mkM _ _ _ (⟨(⟨#[]⟩ : ByteArray), false⟩ : S31)); (case aB => exact (by repeat (first | (with_reducible first | exact HB.out | apply below_alloc | apply pw_below_drewN | apply below_drew1) | exact HB.out))); (case aF => exact (fun _ _ => trivial)); (case aO => exact (by (with_reducible repeat (first | apply Kd.R_alloc | apply Kd.R_drewN | apply Kd.R_drew)); exact HO_3.out)); (case aS => exact (below_size (by repeat (first | (with_reducible first | exact HB.out | apply below_alloc | apply pw_below_drewN | apply below_drew1) | exact HB.out)))); (case aL => have := LMc34.out; omega); intro v134 w35 ho hb hg hat; rw [← Ny133.out] at ho; have n0_ := Aside0.mk (hb); have n1_ := Aside0.mk (ho); clear HB; clear HO_3; have HB := n0_; have HO135 := n1_; clear n0_ n1_; clear ho hb hg hat; obtain ⟨Ao36, co36, eo36⟩ := Kd.R_slice HO135.out; subst eo36)))
                    go_loopg [6] kj11 (fun kq v6 w' => ∃ (x3_4 : List (S31)) (x6_4 : Int), v6 = .int .i64 x6_4 ∧ Aside0 (affluxlaw22_union.l2 kq l0 x3_4 x4_1 x5_2 x6_4 = some r) ∧ Aside0 (kq ≤ kj11) ∧ Aside0 (Kd.R k31 31 w' w.heap.size (fun _ => True) (.slice Ao36 y133.length co36) x3_4) ∧ Aside0 (Below w.heap.size w w'))
                    case atStart => exact ⟨(y133), (wrap64 ((y133.length : Int) - 1)), (by first | rfl | (simp; done) | (simp [*]; done)), H', ⟨Nat.le_refl _⟩, ⟨by (with_reducible repeat (first | apply Kd.R_alloc | apply Kd.R_drewN | apply Kd.R_drew)); exact HO135.out⟩, ⟨by repeat (first | (with_reducible first | exact HB.out | apply below_alloc | apply pw_below_drewN | apply below_drew1) | exact HB.out)⟩⟩
                    case round =>
                      clear H'
                      try clear c1
                      try clear p1
                      try clear q1
                      try clear hx1
                      try clear c2
                      try clear c2b0
                      try clear p2
                      try clear q2
                      try clear hx2
                      try clear hf2
                      try clear c3
                      try clear p3
                      try clear q3
                      try clear hx3
                      try clear hf3
                      try clear c4
                      try clear c4b0
                      try clear c5
                      try clear c5b0
                      try clear c6
                      try clear c6b0
                      try clear p6
                      try clear c7
                      try clear c7b0
                      try clear c8
                      try clear c8b0
                      try clear c12
                      try clear p12
                      try clear q12
                      try clear hx12
                      try clear c13
                      try clear c13b0
                      try clear p13
                      try clear q13
                      try clear hx13
                      try clear c14
                      try clear c14b0
                      try clear c15
                      try clear c15b0
                      try clear c16
                      try clear c16b0
                      try clear c19
                      try clear c20
                      try clear c20b0
                      try clear c21
                      try clear c21b0
                      try clear q22
                      try clear c23
                      try clear c24
                      try clear p24
                      try clear q24
                      try clear hx24
                      try clear hf24
                      try clear c26
                      try clear hx26
                      try clear hf26
                      try clear c28
                      try clear c28b0
                      try clear c29
                      try clear c29b0
                      try clear c30
                      try clear p30
                      try clear q30
                      try clear hx30
                      try clear hf30
                      try clear c32
                      try clear hx32
                      try clear hf32
                      try clear c34
                      try clear hx125_0
                      try clear hx125_1
                      try clear hx126_0
                      try clear hx126_1
                      try clear hx127_0
                      try clear hx127_1
                      try clear hx128_0
                      try clear hx128_1
                      try clear hx129_0
                      try clear hx129_1
                      try clear hx131_0
                      try clear hx131_1
                      try clear hx24_0
                      try clear hx24_1
                      try clear hx26_1
                      try clear hx30_0
                      try clear hx30_1
                      try clear hx32_1
                      try clear p1
                      try clear p12
                      try clear p125
                      try clear p126
                      try clear p127
                      try clear p128
                      try clear p129
                      try clear p131
                      try clear p2
                      try clear p24
                      try clear p30
                      try clear p6
                      try clear q1
                      try clear q12
                      try clear q125
                      try clear q126
                      try clear q127
                      try clear q128
                      try clear q129
                      try clear q131
                      try clear q24
                      try clear q30
                      obtain ⟨x3_4, x6_4, rfl, HA, HK4, HO_3, HB⟩ := hrel
                      have hl3_4 := (Kd.R_reads' HO_3.out).1
                      rw [hl3_4] at HO_3
                      (try simp only [hl3_4])
                      cases gk with
                      | zero => exact absurd HA.out (by simp [affluxlaw22_union.l2])
                      | succ k4 =>
                        have H := HA.out
                        clear HA
                        simp only [affluxlaw22_union.l2] at H
                        by_cases c37 : x6_4 > x5_2
                        · rw [if_pos c37] at H
                          have c37b0 : decide (x5_2 < x6_4) = true := decide_eq_true c37
                          (try simp only [hl3_4] at c37b0)
                          clear c37
                          obtain ⟨ji38, hji38⟩ : ∃ j_ : Int, (wrap64 (x6_4 - 1)) = j_ := ⟨_, rfl⟩
                          replace H : (if 0 ≤ (ji38) then (if (ji38) < (x3_4.length : Int) then (if 0 ≤ x6_4 then (if x6_4 < (x3_4.length : Int) then (affluxlaw22_union.l2 k4 l0 (x3_4.set (x6_4 : Int).toNat (⟨(rd_T31 x3_4 (ji38)).f0, (rd_T31 x3_4 (ji38)).f1⟩ : S31)) x4_1 x5_2 ji38) else (none)) else (none)) else (none)) else (none)) = some r := by first | (rw [hji38] at H; exact H) | (simp only [hji38] at H ⊢; exact H)
                          have hji38w : (IntKind.i64.wrap (x6_4 - 1)) = ji38 := (i64_w _).trans hji38
                          by_cases c39 : 0 ≤ (ji38)
                          · rw [if_pos c39] at H
                            have c39b0 : decide (0 ≤ (ji38)) = true := decide_eq_true c39
                            (try simp only [hl3_4] at c39b0)
                            clear c39
                            by_cases c40 : (ji38) < (x3_4.length : Int)
                            · rw [if_pos c40] at H
                              have c40b0 : decide ((ji38) < (x3_4.length : Int)) = true := decide_eq_true c40
                              (try simp only [hl3_4] at c40b0)
                              clear c40
                              by_cases c41 : 0 ≤ x6_4
                              · rw [if_pos c41] at H
                                have c41b0 : decide (0 ≤ x6_4) = true := decide_eq_true c41
                                (try simp only [hl3_4] at c41b0)
                                clear c41
                                by_cases c42 : x6_4 < (x3_4.length : Int)
                                · rw [if_pos c42] at H
                                  have c42b0 : decide (x6_4 < (x3_4.length : Int)) = true := decide_eq_true c42
                                  (try simp only [hl3_4] at c42b0)
                                  clear c42
                                  obtain ⟨y137, hy137⟩ : ∃ y_ : List (S31), y_ = (x3_4.set (x6_4 : Int).toNat (⟨(rd_T31 x3_4 (ji38)).f0, (rd_T31 x3_4 (ji38)).f1⟩ : S31)) := ⟨_, rfl⟩
                                  replace H : (affluxlaw22_union.l2 k4 l0 y137 x4_1 x5_2 ji38) = some r := by first | (rw [hy137]; with_reducible exact H) | (have H2_ := (Option.bind_some _ _).symm.trans H; rw [hy137]; with_reducible exact H2_) | (have H2_ := (Option.bind_some _ _).symm.trans H; with_reducible exact H2_) | with_reducible exact H | (rw [hy137]; exact H) | exact H
                                  have Ny137 := Aside0.mk hy137
                                  clear hy137
                                  have H' := Aside0.mk H
                                  clear H
                                  have p136 : 0 ≤ ((ji38) : Int) := of_decide_eq_true (by first | (with_reducible assumption) | assumption)
                                  have q136 : (ji38) < (x3_4.length : Int) := of_decide_eq_true (by first | (with_reducible assumption) | assumption)
                                  obtain ⟨ad136, e136, hx136_0, hx136_1⟩ := at_T31 (Kd.R_reads' HO_3.out).2.2 (ji38) p136 q136
                                  cases e136
                                  replace p136 := eq_true p136
                                  replace q136 := eq_true q136
                                  have p43 : 0 ≤ (x6_4 : Int) := of_decide_eq_true (by first | (with_reducible assumption) | assumption)
                                  have q43 : (x6_4 : Int) < ((x3_4.length : Int) : Int) := of_decide_eq_true (by first | (with_reducible assumption) | assumption)
                                  obtain ⟨go43, co43, eo43, gb43, gl43, cl43, HG43⟩ := Kd.R_form HO_3.out (by omega)
                                  (first | cases eo43 | (injection eo43 with ea_ en_ ec_; (first | subst ea_ | (injection ea_ with ea_; subst ea_)); subst ec_; clear en_))
                                  have GB43 := Aside0.mk gb43
                                  have GG43 := Aside0.mk HG43
                                  clear gb43 gl43 HG43
                                  (first | simp only [add_plain] at hx136_0 | skip)
                                  (first | simp only [add_plain] at hx136_1 | skip)
                                  obtain ⟨ce43, hcl43, hM43, hcc43, hfr43⟩ := Kd.R_elem HO_3.out z31 (x6_4 : Int) p43 q43
                                  obtain rfl := k31_openM hM43
                                  have hx43_0 : wr.cell? ⟨go43, (x6_4 : Int).toNat * 2, none⟩ = some (.string ((rd_T31 x3_4 x6_4).f0)) := hcc43 0 _ rfl
                                  have hx43_1 : wr.cell? ⟨go43, (x6_4 : Int).toNat * 2 + 1, none⟩ = some (.bool ((rd_T31 x3_4 x6_4).f1)) := hcc43 1 _ rfl
                                  have hf43_0 : wr.frozen? ⟨go43, (x6_4 : Int).toNat * 2, none⟩ = false := hfr43 0
                                  have hf43_1 : wr.frozen? ⟨go43, (x6_4 : Int).toNat * 2 + 1, none⟩ = false := hfr43 1
                                  clear hcl43 hcc43 hfr43 hM43
                                  replace p43 := eq_true p43
                                  replace q43 := eq_true q43
                                  have HX44 := Aside0.mk (show Kd.R k31 31 wr w.heap.size (fun _ => True) (.slice (some ⟨go43, 0, none⟩) x3_4.length co36) x3_4 from (by (with_reducible repeat (first | apply Kd.R_alloc | apply Kd.R_drewN | apply Kd.R_drew)); exact HO_3.out))
                                  obtain ⟨ce44, hcl44, hM44, hcc44, hfr44⟩ := Kd.R_elem HX44.out z31 (x6_4 : Int) (of_decide_eq_true (by first | (with_reducible assumption) | assumption)) (by have h_ : (x6_4 : Int) < ((x3_4.length : Int) : Int) := of_decide_eq_true (by first | (with_reducible assumption) | assumption); first | exact h_ | (have e_ := (Kd.R_reads' HO_3.out).1; omega) | simpa using h_)
                                  obtain rfl := k31_openM hM44
                                  have HP44 := Kd.R_seg HX44.out (x6_4 : Int) (of_decide_eq_true (by first | (with_reducible assumption) | assumption)) (by have h_ : (x6_4 : Int) < ((x3_4.length : Int) : Int) := of_decide_eq_true (by first | (with_reducible assumption) | assumption); first | exact h_ | (have e_ := (Kd.R_reads' HO_3.out).1; omega) | simpa using h_) (seg := [.string ((rd_T31 x3_4 (ji38)).f0), .bool ((rd_T31 x3_4 (ji38)).f1)]) (j := 0) hcl44 hcc44 (show 2 ≤ 2 from by decide) (x' := (⟨(rd_T31 x3_4 (ji38)).f0, (rd_T31 x3_4 (ji38)).f1⟩ : S31)) (k31_mkM _ _ _ (⟨(rd_T31 x3_4 (ji38)).f0, (rd_T31 x3_4 (ji38)).f1⟩ : S31) ) (fun _ hk => hk)
                                  have hx44_0 := hcc44 0 _ rfl
                                  (try simp only [show (k31).sz = 2 from rfl, Nat.mul_one, Nat.add_zero] at hx44_0)
                                  have hf44_0 := hfr44 0
                                  (try simp only [show (k31).sz = 2 from rfl, Nat.mul_one, Nat.add_zero] at hf44_0)
                                  have hx44_1 := hcc44 1 _ rfl
                                  (try simp only [show (k31).sz = 2 from rfl, Nat.mul_one, Nat.add_zero] at hx44_1)
                                  have hf44_1 := hfr44 1
                                  (try simp only [show (k31).sz = 2 from rfl, Nat.mul_one, Nat.add_zero] at hf44_1)
                                  clear hcl44 hcc44 hfr44 hM44
                                  go_wp2_with (first | ((with_reducible refine gate_store (t := 31) (p := 84) rfl ?_); (try (rw [drewN_self wr]; generalize hq_ : World.drewN wr _ = wr; have n0_ := Aside0.mk (Kd.R_at hq_ HO_3.out); have n1_ := Aside0.mk (below_at hq_ HB.out); clear hq_ HO_3 HB; have HO_3 := n0_; have HB := n1_; clear n0_ n1_; (try (have HX44 := Aside0.mk (show Kd.R k31 31 wr w.heap.size (fun _ => True) (.slice (some ⟨go43, 0, none⟩) x3_4.length co36) x3_4 from (by (with_reducible repeat (first | apply Kd.R_alloc | apply Kd.R_drewN | apply Kd.R_drew)); exact HO_3.out)))); (try (obtain ⟨ce44, hcl44, hM44, hcc44, hfr44⟩ := Kd.R_elem HX44.out z31 (x6_4 : Int) (of_decide_eq_true (by first | (with_reducible assumption) | assumption)) (by have h_ : (x6_4 : Int) < ((x3_4.length : Int) : Int) := of_decide_eq_true (by first | (with_reducible assumption) | assumption); first | exact h_ | (have e_ := (Kd.R_reads' HO_3.out).1; omega) | simpa using h_))); (try (obtain rfl := k31_openM hM44)); (try (have HP44 := Kd.R_seg HX44.out (x6_4 : Int) (of_decide_eq_true (by first | (with_reducible assumption) | assumption)) (by have h_ : (x6_4 : Int) < ((x3_4.length : Int) : Int) := of_decide_eq_true (by first | (with_reducible assumption) | assumption); first | exact h_ | (have e_ := (Kd.R_reads' HO_3.out).1; omega) | simpa using h_) (seg := [.string ((rd_T31 x3_4 (ji38)).f0), .bool ((rd_T31 x3_4 (ji38)).f1)]) (j := 0) hcl44 hcc44 (show 2 ≤ 2 from by decide) (x' := (⟨(rd_T31 x3_4 (ji38)).f0, (rd_T31 x3_4 (ji38)).f1⟩ : S31)) (k31_mkM _ _ _ (⟨(rd_T31 x3_4 (ji38)).f0, (rd_T31 x3_4 (ji38)).f1⟩ : S31) ) (fun _ hk => hk))); (try (have hx44_0 := hcc44 0 _ rfl)); (try (try simp only [show (k31).sz = 2 from rfl, Nat.mul_one, Nat.add_zero] at hx44_0)); (try (have hf44_0 := hfr44 0)); (try (try simp only [show (k31).sz = 2 from rfl, Nat.mul_one, Nat.add_zero] at hf44_0)); (try (have hx44_1 := hcc44 1 _ rfl)); (try (try simp only [show (k31).sz = 2 from rfl, Nat.mul_one, Nat.add_zero] at hx44_1)); (try (have hf44_1 := hfr44 1)); (try (try simp only [show (k31).sz = 2 from rfl, Nat.mul_one, Nat.add_zero] at hf44_1)); (try (clear hcl44 hcc44 hfr44 hM44)))); refine store_event (t := 31) (p := 84) (v := ?vo_w45) (w1 := ((wr.setCell ⟨go43, (x6_4 : Int).toNat * 2, none⟩ (.string ((rd_T31 x3_4 (ji38)).f0))).setCell ⟨go43, (x6_4 : Int).toNat * 2 + 1, none⟩ (.bool ((rd_T31 x3_4 (ji38)).f1)))) ?hg ?ho ?hn ?hr ?_; (case ho => rfl); (case hg => rfl); (case hn => rfl); (case hr => first | (go_simp; done) | (go_simp; rfl)); intro w45 hw; have hg : wr.grownBy w45 (some go43) := (by rw [hw]; exact HP44.2); have hp_ : Kd.R k31 31 w45 w.heap.size (fun _ => True) (.slice (some ⟨go43, 0, none⟩) x3_4.length co36) y137 := (by rw [hw, Ny137.out]; exact HP44.1); clear HP44; have n0_ := Aside0.mk (hp_); have n1_ := Aside0.mk ((by rw [hw]; exact below_set (below_set (HB.out) GB43.out) GB43.out : Below w.heap.size w w45)); clear HO_3; clear HB; have HO_3 := n0_; have HB := n1_; clear n0_ n1_; clear hg hw hp_))
                                  repeat (go_quiet (first | ((with_reducible refine gate_store (t := 31) (p := 84) rfl ?_); (try (rw [drewN_self wr]; generalize hq_ : World.drewN wr _ = wr; have n0_ := Aside0.mk (Kd.R_at hq_ HO_3.out); have n1_ := Aside0.mk (below_at hq_ HB.out); clear hq_ HO_3 HB; have HO_3 := n0_; have HB := n1_; clear n0_ n1_; (try (have HX44 := Aside0.mk (show Kd.R k31 31 wr w.heap.size (fun _ => True) (.slice (some ⟨go43, 0, none⟩) x3_4.length co36) x3_4 from (by (with_reducible repeat (first | apply Kd.R_alloc | apply Kd.R_drewN | apply Kd.R_drew)); exact HO_3.out)))); (try (obtain ⟨ce44, hcl44, hM44, hcc44, hfr44⟩ := Kd.R_elem HX44.out z31 (x6_4 : Int) (of_decide_eq_true (by first | (with_reducible assumption) | assumption)) (by have h_ : (x6_4 : Int) < ((x3_4.length : Int) : Int) := of_decide_eq_true (by first | (with_reducible assumption) | assumption); first | exact h_ | (have e_ := (Kd.R_reads' HO_3.out).1; omega) | simpa using h_))); (try (obtain rfl := k31_openM hM44)); (try (have HP44 := Kd.R_seg HX44.out (x6_4 : Int) (of_decide_eq_true (by first | (with_reducible assumption) | assumption)) (by have h_ : (x6_4 : Int) < ((x3_4.length : Int) : Int) := of_decide_eq_true (by first | (with_reducible assumption) | assumption); first | exact h_ | (have e_ := (Kd.R_reads' HO_3.out).1; omega) | simpa using h_) (seg := [.string ((rd_T31 x3_4 (ji38)).f0), .bool ((rd_T31 x3_4 (ji38)).f1)]) (j := 0) hcl44 hcc44 (show 2 ≤ 2 from by decide) (x' := (⟨(rd_T31 x3_4 (ji38)).f0, (rd_T31 x3_4 (ji38)).f1⟩ : S31)) (k31_mkM _ _ _ (⟨(rd_T31 x3_4 (ji38)).f0, (rd_T31 x3_4 (ji38)).f1⟩ : S31) ) (fun _ hk => hk))); (try (have hx44_0 := hcc44 0 _ rfl)); (try (try simp only [show (k31).sz = 2 from rfl, Nat.mul_one, Nat.add_zero] at hx44_0)); (try (have hf44_0 := hfr44 0)); (try (try simp only [show (k31).sz = 2 from rfl, Nat.mul_one, Nat.add_zero] at hf44_0)); (try (have hx44_1 := hcc44 1 _ rfl)); (try (try simp only [show (k31).sz = 2 from rfl, Nat.mul_one, Nat.add_zero] at hx44_1)); (try (have hf44_1 := hfr44 1)); (try (try simp only [show (k31).sz = 2 from rfl, Nat.mul_one, Nat.add_zero] at hf44_1)); (try (clear hcl44 hcc44 hfr44 hM44)))); refine store_event (t := 31) (p := 84) (v := ?vo_w45) (w1 := ((wr.setCell ⟨go43, (x6_4 : Int).toNat * 2, none⟩ (.string ((rd_T31 x3_4 (ji38)).f0))).setCell ⟨go43, (x6_4 : Int).toNat * 2 + 1, none⟩ (.bool ((rd_T31 x3_4 (ji38)).f1)))) ?hg ?ho ?hn ?hr ?_; (case ho => rfl); (case hg => rfl); (case hn => rfl); (case hr => first | (go_simp; done) | (go_simp; rfl)); intro w45 hw; have hg : wr.grownBy w45 (some go43) := (by rw [hw]; exact HP44.2); have hp_ : Kd.R k31 31 w45 w.heap.size (fun _ => True) (.slice (some ⟨go43, 0, none⟩) x3_4.length co36) y137 := (by rw [hw, Ny137.out]; exact HP44.1); clear HP44; have n0_ := Aside0.mk (hp_); have n1_ := Aside0.mk ((by rw [hw]; exact below_set (below_set (HB.out) GB43.out) GB43.out : Below w.heap.size w w45)); clear HO_3; clear HB; have HO_3 := n0_; have HB := n1_; clear n0_ n1_; clear hg hw hp_)); try go_wp2_with (first | ((with_reducible refine gate_store (t := 31) (p := 84) rfl ?_); (try (rw [drewN_self wr]; generalize hq_ : World.drewN wr _ = wr; have n0_ := Aside0.mk (Kd.R_at hq_ HO_3.out); have n1_ := Aside0.mk (below_at hq_ HB.out); clear hq_ HO_3 HB; have HO_3 := n0_; have HB := n1_; clear n0_ n1_; (try (have HX44 := Aside0.mk (show Kd.R k31 31 wr w.heap.size (fun _ => True) (.slice (some ⟨go43, 0, none⟩) x3_4.length co36) x3_4 from (by (with_reducible repeat (first | apply Kd.R_alloc | apply Kd.R_drewN | apply Kd.R_drew)); exact HO_3.out)))); (try (obtain ⟨ce44, hcl44, hM44, hcc44, hfr44⟩ := Kd.R_elem HX44.out z31 (x6_4 : Int) (of_decide_eq_true (by first | (with_reducible assumption) | assumption)) (by have h_ : (x6_4 : Int) < ((x3_4.length : Int) : Int) := of_decide_eq_true (by first | (with_reducible assumption) | assumption); first | exact h_ | (have e_ := (Kd.R_reads' HO_3.out).1; omega) | simpa using h_))); (try (obtain rfl := k31_openM hM44)); (try (have HP44 := Kd.R_seg HX44.out (x6_4 : Int) (of_decide_eq_true (by first | (with_reducible assumption) | assumption)) (by have h_ : (x6_4 : Int) < ((x3_4.length : Int) : Int) := of_decide_eq_true (by first | (with_reducible assumption) | assumption); first | exact h_ | (have e_ := (Kd.R_reads' HO_3.out).1; omega) | simpa using h_) (seg := [.string ((rd_T31 x3_4 (ji38)).f0), .bool ((rd_T31 x3_4 (ji38)).f1)]) (j := 0) hcl44 hcc44 (show 2 ≤ 2 from by decide) (x' := (⟨(rd_T31 x3_4 (ji38)).f0, (rd_T31 x3_4 (ji38)).f1⟩ : S31)) (k31_mkM _ _ _ (⟨(rd_T31 x3_4 (ji38)).f0, (rd_T31 x3_4 (ji38)).f1⟩ : S31) ) (fun _ hk => hk))); (try (have hx44_0 := hcc44 0 _ rfl)); (try (try simp only [show (k31).sz = 2 from rfl, Nat.mul_one, Nat.add_zero] at hx44_0)); (try (have hf44_0 := hfr44 0)); (try (try simp only [show (k31).sz = 2 from rfl, Nat.mul_one, Nat.add_zero] at hf44_0)); (try (have hx44_1 := hcc44 1 _ rfl)); (try (try simp only [show (k31).sz = 2 from rfl, Nat.mul_one, Nat.add_zero] at hx44_1)); (try (have hf44_1 := hfr44 1)); (try (try simp only [show (k31).sz = 2 from rfl, Nat.mul_one, Nat.add_zero] at hf44_1)); (try (clear hcl44 hcc44 hfr44 hM44)))); refine store_event (t := 31) (p := 84) (v := ?vo_w45) (w1 := ((wr.setCell ⟨go43, (x6_4 : Int).toNat * 2, none⟩ (.string ((rd_T31 x3_4 (ji38)).f0))).setCell ⟨go43, (x6_4 : Int).toNat * 2 + 1, none⟩ (.bool ((rd_T31 x3_4 (ji38)).f1)))) ?hg ?ho ?hn ?hr ?_; (case ho => rfl); (case hg => rfl); (case hn => rfl); (case hr => first | (go_simp; done) | (go_simp; rfl)); intro w45 hw; have hg : wr.grownBy w45 (some go43) := (by rw [hw]; exact HP44.2); have hp_ : Kd.R k31 31 w45 w.heap.size (fun _ => True) (.slice (some ⟨go43, 0, none⟩) x3_4.length co36) y137 := (by rw [hw, Ny137.out]; exact HP44.1); clear HP44; have n0_ := Aside0.mk (hp_); have n1_ := Aside0.mk ((by rw [hw]; exact below_set (below_set (HB.out) GB43.out) GB43.out : Below w.heap.size w w45)); clear HO_3; clear HB; have HO_3 := n0_; have HB := n1_; clear n0_ n1_; clear hg hw hp_)))
                                  (try simp only [← hl3_4])
                                  go_roundg k4
                                  case measure => have := HK1.out; have := HJ2.out; have := HJ11.out; have := HK4.out; omega
                                  case rel => exact ⟨(y137), (ji38), (by first | rfl | (simp; done) | (simp only [← hji38] <;> (first | rfl | simp)) | (simp [*]; done)), H', ⟨by have := HK1.out; have := HJ2.out; have := HJ11.out; have := HK4.out; omega⟩, ⟨by (try simp only [hl3_4]); (with_reducible repeat (first | apply Kd.R_alloc | apply Kd.R_drewN | apply Kd.R_drew)); exact HO_3.out⟩, ⟨by repeat (first | (with_reducible first | exact HB.out | apply below_alloc | apply pw_below_drewN | apply below_drew1) | exact HB.out)⟩⟩
                                · rw [if_neg c42] at H
                                  exact absurd H (by simp)
                              · rw [if_neg c41] at H
                                exact absurd H (by simp)
                            · rw [if_neg c40] at H
                              exact absurd H (by simp)
                          · rw [if_neg c39] at H
                            exact absurd H (by simp)
                        · rw [if_neg c37] at H
                          have c37b0 : decide (x5_2 < x6_4) = false := decide_eq_false c37
                          (try simp only [hl3_4] at c37b0)
                          clear c37
                          by_cases c46 : 0 ≤ x4_1
                          · rw [if_pos c46] at H
                            have c46b0 : decide (0 ≤ x4_1) = true := decide_eq_true c46
                            (try simp only [hl3_4] at c46b0)
                            clear c46
                            by_cases c47 : x4_1 < (l0.length : Int)
                            · rw [if_pos c47] at H
                              have c47b0 : decide (x4_1 < (l0.length : Int)) = true := decide_eq_true c47
                              (try simp only [hl3_4] at c47b0)
                              clear c47
                              by_cases c48 : 0 ≤ x5_2
                              · rw [if_pos c48] at H
                                have c48b0 : decide (0 ≤ x5_2) = true := decide_eq_true c48
                                (try simp only [hl3_4] at c48b0)
                                clear c48
                                by_cases c49 : x5_2 < (x3_4.length : Int)
                                · rw [if_pos c49] at H
                                  have c49b0 : decide (x5_2 < (x3_4.length : Int)) = true := decide_eq_true c49
                                  (try simp only [hl3_4] at c49b0)
                                  clear c49
                                  obtain ⟨y139, hy139⟩ : ∃ y_ : List (S31), y_ = (x3_4.set (x5_2 : Int).toNat (⟨(rd_T31 l0 x4_1).f0, (rd_T31 l0 x4_1).f1⟩ : S31)) := ⟨_, rfl⟩
                                  replace H : (affluxlaw22_union.l0 k4 l0 y139 (wrap64 (x4_1 + 1))) = some r := by first | (rw [hy139]; with_reducible exact H) | (have H2_ := (Option.bind_some _ _).symm.trans H; rw [hy139]; with_reducible exact H2_) | (have H2_ := (Option.bind_some _ _).symm.trans H; with_reducible exact H2_) | with_reducible exact H | (rw [hy139]; exact H) | exact H
                                  have Ny139 := Aside0.mk hy139
                                  clear hy139
                                  have H' := Aside0.mk H
                                  clear H
                                  have p138 : 0 ≤ (x4_1 : Int) := of_decide_eq_true (by first | (with_reducible assumption) | assumption)
                                  have q138 : x4_1 < (l0.length : Int) := of_decide_eq_true (by first | (with_reducible assumption) | assumption)
                                  obtain ⟨ad138, e138, hx138_0, hx138_1⟩ := at_T31 HR0.out x4_1 p138 q138
                                  cases e138
                                  replace hx138_0 := (HB.out.cell (World.block_lt_of_cell? w _ hx138_0)).trans hx138_0
                                  replace hx138_1 := (HB.out.cell (World.block_lt_of_cell? w _ hx138_1)).trans hx138_1
                                  replace p138 := eq_true p138
                                  replace q138 := eq_true q138
                                  have p50 : 0 ≤ (x5_2 : Int) := of_decide_eq_true (by first | (with_reducible assumption) | assumption)
                                  have q50 : (x5_2 : Int) < ((x3_4.length : Int) : Int) := of_decide_eq_true (by first | (with_reducible assumption) | assumption)
                                  obtain ⟨go50, co50, eo50, gb50, gl50, cl50, HG50⟩ := Kd.R_form HO_3.out (by omega)
                                  (first | cases eo50 | (injection eo50 with ea_ en_ ec_; (first | subst ea_ | (injection ea_ with ea_; subst ea_)); subst ec_; clear en_))
                                  have GB50 := Aside0.mk gb50
                                  have GG50 := Aside0.mk HG50
                                  clear gb50 gl50 HG50
                                  obtain ⟨ce50, hcl50, hM50, hcc50, hfr50⟩ := Kd.R_elem HO_3.out z31 (x5_2 : Int) p50 q50
                                  obtain rfl := k31_openM hM50
                                  have hx50_0 : wr.cell? ⟨go50, (x5_2 : Int).toNat * 2, none⟩ = some (.string ((rd_T31 x3_4 x5_2).f0)) := hcc50 0 _ rfl
                                  have hx50_1 : wr.cell? ⟨go50, (x5_2 : Int).toNat * 2 + 1, none⟩ = some (.bool ((rd_T31 x3_4 x5_2).f1)) := hcc50 1 _ rfl
                                  have hf50_0 : wr.frozen? ⟨go50, (x5_2 : Int).toNat * 2, none⟩ = false := hfr50 0
                                  have hf50_1 : wr.frozen? ⟨go50, (x5_2 : Int).toNat * 2 + 1, none⟩ = false := hfr50 1
                                  clear hcl50 hcc50 hfr50 hM50
                                  replace p50 := eq_true p50
                                  replace q50 := eq_true q50
                                  have HX51 := Aside0.mk (show Kd.R k31 31 wr w.heap.size (fun _ => True) (.slice (some ⟨go50, 0, none⟩) x3_4.length co36) x3_4 from (by (with_reducible repeat (first | apply Kd.R_alloc | apply Kd.R_drewN | apply Kd.R_drew)); exact HO_3.out))
                                  obtain ⟨ce51, hcl51, hM51, hcc51, hfr51⟩ := Kd.R_elem HX51.out z31 (x5_2 : Int) (of_decide_eq_true (by first | (with_reducible assumption) | assumption)) (by have h_ : (x5_2 : Int) < ((x3_4.length : Int) : Int) := of_decide_eq_true (by first | (with_reducible assumption) | assumption); first | exact h_ | (have e_ := (Kd.R_reads' HO_3.out).1; omega) | simpa using h_)
                                  obtain rfl := k31_openM hM51
                                  have HP51 := Kd.R_seg HX51.out (x5_2 : Int) (of_decide_eq_true (by first | (with_reducible assumption) | assumption)) (by have h_ : (x5_2 : Int) < ((x3_4.length : Int) : Int) := of_decide_eq_true (by first | (with_reducible assumption) | assumption); first | exact h_ | (have e_ := (Kd.R_reads' HO_3.out).1; omega) | simpa using h_) (seg := [.string ((rd_T31 l0 x4_1).f0), .bool ((rd_T31 l0 x4_1).f1)]) (j := 0) hcl51 hcc51 (show 2 ≤ 2 from by decide) (x' := (⟨(rd_T31 l0 x4_1).f0, (rd_T31 l0 x4_1).f1⟩ : S31)) (k31_mkM _ _ _ (⟨(rd_T31 l0 x4_1).f0, (rd_T31 l0 x4_1).f1⟩ : S31) ) (fun _ hk => hk)
                                  have hx51_0 := hcc51 0 _ rfl
                                  (try simp only [show (k31).sz = 2 from rfl, Nat.mul_one, Nat.add_zero] at hx51_0)
                                  have hf51_0 := hfr51 0
                                  (try simp only [show (k31).sz = 2 from rfl, Nat.mul_one, Nat.add_zero] at hf51_0)
                                  have hx51_1 := hcc51 1 _ rfl
                                  (try simp only [show (k31).sz = 2 from rfl, Nat.mul_one, Nat.add_zero] at hx51_1)
                                  have hf51_1 := hfr51 1
                                  (try simp only [show (k31).sz = 2 from rfl, Nat.mul_one, Nat.add_zero] at hf51_1)
                                  clear hcl51 hcc51 hfr51 hM51
                                  go_wp2_with (first | ((with_reducible refine gate_store (t := 31) (p := 91) rfl ?_); (try (rw [drewN_self wr]; generalize hq_ : World.drewN wr _ = wr; have n0_ := Aside0.mk (Kd.R_at hq_ HO_3.out); have n1_ := Aside0.mk (below_at hq_ HB.out); clear hq_ HO_3 HB; have HO_3 := n0_; have HB := n1_; clear n0_ n1_; (try (have HX51 := Aside0.mk (show Kd.R k31 31 wr w.heap.size (fun _ => True) (.slice (some ⟨go50, 0, none⟩) x3_4.length co36) x3_4 from (by (with_reducible repeat (first | apply Kd.R_alloc | apply Kd.R_drewN | apply Kd.R_drew)); exact HO_3.out)))); (try (obtain ⟨ce51, hcl51, hM51, hcc51, hfr51⟩ := Kd.R_elem HX51.out z31 (x5_2 : Int) (of_decide_eq_true (by first | (with_reducible assumption) | assumption)) (by have h_ : (x5_2 : Int) < ((x3_4.length : Int) : Int) := of_decide_eq_true (by first | (with_reducible assumption) | assumption); first | exact h_ | (have e_ := (Kd.R_reads' HO_3.out).1; omega) | simpa using h_))); (try (obtain rfl := k31_openM hM51)); (try (have HP51 := Kd.R_seg HX51.out (x5_2 : Int) (of_decide_eq_true (by first | (with_reducible assumption) | assumption)) (by have h_ : (x5_2 : Int) < ((x3_4.length : Int) : Int) := of_decide_eq_true (by first | (with_reducible assumption) | assumption); first | exact h_ | (have e_ := (Kd.R_reads' HO_3.out).1; omega) | simpa using h_) (seg := [.string ((rd_T31 l0 x4_1).f0), .bool ((rd_T31 l0 x4_1).f1)]) (j := 0) hcl51 hcc51 (show 2 ≤ 2 from by decide) (x' := (⟨(rd_T31 l0 x4_1).f0, (rd_T31 l0 x4_1).f1⟩ : S31)) (k31_mkM _ _ _ (⟨(rd_T31 l0 x4_1).f0, (rd_T31 l0 x4_1).f1⟩ : S31) ) (fun _ hk => hk))); (try (have hx51_0 := hcc51 0 _ rfl)); (try (try simp only [show (k31).sz = 2 from rfl, Nat.mul_one, Nat.add_zero] at hx51_0)); (try (have hf51_0 := hfr51 0)); (try (try simp only [show (k31).sz = 2 from rfl, Nat.mul_one, Nat.add_zero] at hf51_0)); (try (have hx51_1 := hcc51 1 _ rfl)); (try (try simp only [show (k31).sz = 2 from rfl, Nat.mul_one, Nat.add_zero] at hx51_1)); (try (have hf51_1 := hfr51 1)); (try (try simp only [show (k31).sz = 2 from rfl, Nat.mul_one, Nat.add_zero] at hf51_1)); (try (clear hcl51 hcc51 hfr51 hM51)))); refine store_event (t := 31) (p := 91) (v := ?vo_w52) (w1 := ((wr.setCell ⟨go50, (x5_2 : Int).toNat * 2, none⟩ (.string ((rd_T31 l0 x4_1).f0))).setCell ⟨go50, (x5_2 : Int).toNat * 2 + 1, none⟩ (.bool ((rd_T31 l0 x4_1).f1)))) ?hg ?ho ?hn ?hr ?_; (case ho => rfl); (case hg => rfl); (case hn => rfl); (case hr => first | (go_simp; done) | (go_simp; rfl)); intro w52 hw; have hg : wr.grownBy w52 (some go50) := (by rw [hw]; exact HP51.2); have hp_ : Kd.R k31 31 w52 w.heap.size (fun _ => True) (.slice (some ⟨go50, 0, none⟩) x3_4.length co36) y139 := (by rw [hw, Ny139.out]; exact HP51.1); clear HP51; have n0_ := Aside0.mk (hp_); have n1_ := Aside0.mk ((by rw [hw]; exact below_set (below_set (HB.out) GB50.out) GB50.out : Below w.heap.size w w52)); clear HO_3; clear HB; have HO_3 := n0_; have HB := n1_; clear n0_ n1_; clear hg hw hp_))
                                  repeat (go_quiet (first | ((with_reducible refine gate_store (t := 31) (p := 91) rfl ?_); (try (rw [drewN_self wr]; generalize hq_ : World.drewN wr _ = wr; have n0_ := Aside0.mk (Kd.R_at hq_ HO_3.out); have n1_ := Aside0.mk (below_at hq_ HB.out); clear hq_ HO_3 HB; have HO_3 := n0_; have HB := n1_; clear n0_ n1_; (try (have HX51 := Aside0.mk (show Kd.R k31 31 wr w.heap.size (fun _ => True) (.slice (some ⟨go50, 0, none⟩) x3_4.length co36) x3_4 from (by (with_reducible repeat (first | apply Kd.R_alloc | apply Kd.R_drewN | apply Kd.R_drew)); exact HO_3.out)))); (try (obtain ⟨ce51, hcl51, hM51, hcc51, hfr51⟩ := Kd.R_elem HX51.out z31 (x5_2 : Int) (of_decide_eq_true (by first | (with_reducible assumption) | assumption)) (by have h_ : (x5_2 : Int) < ((x3_4.length : Int) : Int) := of_decide_eq_true (by first | (with_reducible assumption) | assumption); first | exact h_ | (have e_ := (Kd.R_reads' HO_3.out).1; omega) | simpa using h_))); (try (obtain rfl := k31_openM hM51)); (try (have HP51 := Kd.R_seg HX51.out (x5_2 : Int) (of_decide_eq_true (by first | (with_reducible assumption) | assumption)) (by have h_ : (x5_2 : Int) < ((x3_4.length : Int) : Int) := of_decide_eq_true (by first | (with_reducible assumption) | assumption); first | exact h_ | (have e_ := (Kd.R_reads' HO_3.out).1; omega) | simpa using h_) (seg := [.string ((rd_T31 l0 x4_1).f0), .bool ((rd_T31 l0 x4_1).f1)]) (j := 0) hcl51 hcc51 (show 2 ≤ 2 from by decide) (x' := (⟨(rd_T31 l0 x4_1).f0, (rd_T31 l0 x4_1).f1⟩ : S31)) (k31_mkM _ _ _ (⟨(rd_T31 l0 x4_1).f0, (rd_T31 l0 x4_1).f1⟩ : S31) ) (fun _ hk => hk))); (try (have hx51_0 := hcc51 0 _ rfl)); (try (try simp only [show (k31).sz = 2 from rfl, Nat.mul_one, Nat.add_zero] at hx51_0)); (try (have hf51_0 := hfr51 0)); (try (try simp only [show (k31).sz = 2 from rfl, Nat.mul_one, Nat.add_zero] at hf51_0)); (try (have hx51_1 := hcc51 1 _ rfl)); (try (try simp only [show (k31).sz = 2 from rfl, Nat.mul_one, Nat.add_zero] at hx51_1)); (try (have hf51_1 := hfr51 1)); (try (try simp only [show (k31).sz = 2 from rfl, Nat.mul_one, Nat.add_zero] at hf51_1)); (try (clear hcl51 hcc51 hfr51 hM51)))); refine store_event (t := 31) (p := 91) (v := ?vo_w52) (w1 := ((wr.setCell ⟨go50, (x5_2 : Int).toNat * 2, none⟩ (.string ((rd_T31 l0 x4_1).f0))).setCell ⟨go50, (x5_2 : Int).toNat * 2 + 1, none⟩ (.bool ((rd_T31 l0 x4_1).f1)))) ?hg ?ho ?hn ?hr ?_; (case ho => rfl); (case hg => rfl); (case hn => rfl); (case hr => first | (go_simp; done) | (go_simp; rfl)); intro w52 hw; have hg : wr.grownBy w52 (some go50) := (by rw [hw]; exact HP51.2); have hp_ : Kd.R k31 31 w52 w.heap.size (fun _ => True) (.slice (some ⟨go50, 0, none⟩) x3_4.length co36) y139 := (by rw [hw, Ny139.out]; exact HP51.1); clear HP51; have n0_ := Aside0.mk (hp_); have n1_ := Aside0.mk ((by rw [hw]; exact below_set (below_set (HB.out) GB50.out) GB50.out : Below w.heap.size w w52)); clear HO_3; clear HB; have HO_3 := n0_; have HB := n1_; clear n0_ n1_; clear hg hw hp_)); try go_wp2_with (first | ((with_reducible refine gate_store (t := 31) (p := 91) rfl ?_); (try (rw [drewN_self wr]; generalize hq_ : World.drewN wr _ = wr; have n0_ := Aside0.mk (Kd.R_at hq_ HO_3.out); have n1_ := Aside0.mk (below_at hq_ HB.out); clear hq_ HO_3 HB; have HO_3 := n0_; have HB := n1_; clear n0_ n1_; (try (have HX51 := Aside0.mk (show Kd.R k31 31 wr w.heap.size (fun _ => True) (.slice (some ⟨go50, 0, none⟩) x3_4.length co36) x3_4 from (by (with_reducible repeat (first | apply Kd.R_alloc | apply Kd.R_drewN | apply Kd.R_drew)); exact HO_3.out)))); (try (obtain ⟨ce51, hcl51, hM51, hcc51, hfr51⟩ := Kd.R_elem HX51.out z31 (x5_2 : Int) (of_decide_eq_true (by first | (with_reducible assumption) | assumption)) (by have h_ : (x5_2 : Int) < ((x3_4.length : Int) : Int) := of_decide_eq_true (by first | (with_reducible assumption) | assumption); first | exact h_ | (have e_ := (Kd.R_reads' HO_3.out).1; omega) | simpa using h_))); (try (obtain rfl := k31_openM hM51)); (try (have HP51 := Kd.R_seg HX51.out (x5_2 : Int) (of_decide_eq_true (by first | (with_reducible assumption) | assumption)) (by have h_ : (x5_2 : Int) < ((x3_4.length : Int) : Int) := of_decide_eq_true (by first | (with_reducible assumption) | assumption); first | exact h_ | (have e_ := (Kd.R_reads' HO_3.out).1; omega) | simpa using h_) (seg := [.string ((rd_T31 l0 x4_1).f0), .bool ((rd_T31 l0 x4_1).f1)]) (j := 0) hcl51 hcc51 (show 2 ≤ 2 from by decide) (x' := (⟨(rd_T31 l0 x4_1).f0, (rd_T31 l0 x4_1).f1⟩ : S31)) (k31_mkM _ _ _ (⟨(rd_T31 l0 x4_1).f0, (rd_T31 l0 x4_1).f1⟩ : S31) ) (fun _ hk => hk))); (try (have hx51_0 := hcc51 0 _ rfl)); (try (try simp only [show (k31).sz = 2 from rfl, Nat.mul_one, Nat.add_zero] at hx51_0)); (try (have hf51_0 := hfr51 0)); (try (try simp only [show (k31).sz = 2 from rfl, Nat.mul_one, Nat.add_zero] at hf51_0)); (try (have hx51_1 := hcc51 1 _ rfl)); (try (try simp only [show (k31).sz = 2 from rfl, Nat.mul_one, Nat.add_zero] at hx51_1)); (try (have hf51_1 := hfr51 1)); (try (try simp only [show (k31).sz = 2 from rfl, Nat.mul_one, Nat.add_zero] at hf51_1)); (try (clear hcl51 hcc51 hfr51 hM51)))); refine store_event (t := 31) (p := 91) (v := ?vo_w52) (w1 := ((wr.setCell ⟨go50, (x5_2 : Int).toNat * 2, none⟩ (.string ((rd_T31 l0 x4_1).f0))).setCell ⟨go50, (x5_2 : Int).toNat * 2 + 1, none⟩ (.bool ((rd_T31 l0 x4_1).f1)))) ?hg ?ho ?hn ?hr ?_; (case ho => rfl); (case hg => rfl); (case hn => rfl); (case hr => first | (go_simp; done) | (go_simp; rfl)); intro w52 hw; have hg : wr.grownBy w52 (some go50) := (by rw [hw]; exact HP51.2); have hp_ : Kd.R k31 31 w52 w.heap.size (fun _ => True) (.slice (some ⟨go50, 0, none⟩) x3_4.length co36) y139 := (by rw [hw, Ny139.out]; exact HP51.1); clear HP51; have n0_ := Aside0.mk (hp_); have n1_ := Aside0.mk ((by rw [hw]; exact below_set (below_set (HB.out) GB50.out) GB50.out : Below w.heap.size w w52)); clear HO_3; clear HB; have HO_3 := n0_; have HB := n1_; clear n0_ n1_; clear hg hw hp_)))
                                  (try simp only [← hl3_4])
                                  go_roundg k4
                                  case measure => have := HK1.out; have := HJ2.out; have := HJ11.out; have := HK4.out; omega
                                  case rel => exact ⟨(y139), (wrap64 (x4_1 + 1)), (by first | rfl | (simp; done) | (simp [*]; done)), H', ⟨by have := HK1.out; have := HJ2.out; have := HJ11.out; have := HK4.out; omega⟩, ⟨by (try simp only [hl3_4]); (with_reducible repeat (first | apply Kd.R_alloc | apply Kd.R_drewN | apply Kd.R_drew)); exact HO_3.out⟩, ⟨by repeat (first | (with_reducible first | exact HB.out | apply below_alloc | apply pw_below_drewN | apply below_drew1) | exact HB.out)⟩⟩
                                · rw [if_neg c49] at H
                                  exact absurd H (by simp)
                              · rw [if_neg c48] at H
                                exact absurd H (by simp)
                            · rw [if_neg c47] at H
                              exact absurd H (by simp)
                          · rw [if_neg c46] at H
                            exact absurd H (by simp)
                  · rw [if_neg c34] at H
                    exact absurd H (by simp)
      · rw [if_neg c2] at H
        have c2b0 : decide (x4_1 < (l0.length : Int)) = false := decide_eq_false c2
        clear c2
        obtain rfl := Option.some.inj H
        go_wp2
        repeat (go_quiet (fail); try go_wp2)
        go_ret
        exact ⟨_, by first | rfl | (simp [errW_none, errW_some] <;> rfl) | (simp [*, errW_none, errW_some] <;> rfl), by (with_reducible repeat (first | apply Kd.R_alloc | apply Kd.R_drewN | apply Kd.R_drew)); exact HO_3.out, by repeat (first | (with_reducible first | exact HB.out | apply below_alloc | apply pw_below_drewN | apply below_drew1) | exact HB.out)⟩

end Go.Proofs.Ytbpadimcnamdpaa.PK
