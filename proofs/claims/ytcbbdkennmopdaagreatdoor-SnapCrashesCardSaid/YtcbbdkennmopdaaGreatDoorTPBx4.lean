-- Written by a program of this repo (wip/pp.py) out of the translation, for this claim.
import Derived.Test.YtcbbdkennmopdaaGreatDoorTPBx0
import Derived.Test.YtcbbdkennmopdaaGreatDoorTPBx3
namespace Go.Proofs.YtcbbdkennmopdaaGreatDoor.PB
open Go.RowKit Go.Proofs.YtcbbdkennmopdaaGreatDoorW.PrintWords Go.Proofs.YtcbbdkennmopdaaGreatDoorW.PrintLast Go.Proofs.YtcbbdkennmopdaaGreatDoorW.PrintMore
attribute [local go_sem] max2_int min2_int max_two min_two max_three min_three max_four min_four   -- for this text's walks alone
set_option linter.unusedVariables false
set_option linter.unusedSimpArgs false

/-! ### affluxref01_Print: function 86 -/
def affluxref01_Print.l0 : Nat → ByteArray → Int → Bool → List Int → Option (ByteArray)
  | 0, _, _, _, _ => none
  | k + 1, x4, x5, x146000, x146001 => if x5 < (x146001.length : Int) then (if 0 ≤ x5 then ((some (([(wrap64 (48 + (rd x146001 x5))) % 256] : List Int) : List Int)).bind fun y147 => (if (strOfNums y147).size + x4.size ≤ 9223372036854775807 then (affluxref01_Print.l0 k ((strOfNums y147) ++ x4) (wrap64 (x5 + 1)) x146000 x146001) else (none))) else (none)) else (if x146000 = true then (if 1 + x4.size ≤ 9223372036854775807 then (some ((⟨#[45]⟩ : ByteArray) ++ x4)) else (none)) else (some x4))
def affluxref01_Print.f (k : Nat) (a0 : Int) : Option (ByteArray) := (affluxref01_Of.f k a0).bind fun bt141 => (if (bt141.2.length : Int) = 0 then (some (⟨#[48]⟩ : ByteArray)) else (affluxref01_Print.l0 k (⟨#[]⟩ : ByteArray) 0 bt141.1 bt141.2))
theorem affluxref01_Print.mono_l : ∀ k, (∀ y0 y1 y2 y3, LeO (affluxref01_Print.l0 k y0 y1 y2 y3) (affluxref01_Print.l0 (k + 1) y0 y1 y2 y3))
  | 0 => fun _ _ _ _ r h => by simp [affluxref01_Print.l0] at h
  | k + 1 => by
    have ih0 := affluxref01_Print.mono_l k
    · intro y0 y1 y2 y3
      unfold affluxref01_Print.l0
      repeat' first
      | (with_reducible exact ih0 _ _ _ _)
      | (with_reducible exact affluxref01_Of.mono _ _)
      | (with_reducible exact LeO.refl _)
      | (with_reducible exact LeO.none _)
      | (with_reducible refine LeO.ite ?_ ?_)
      | (with_reducible refine LeO.bind ?_ (fun _ => ?_))
      | exact ih0 _ _ _ _
      | exact affluxref01_Of.mono _ _
      | exact LeO.none _
      | refine LeO.ite ?_ ?_
      | refine LeO.bind ?_ (fun _ => ?_)
theorem affluxref01_Print.mono : ∀ a0 k, LeO (affluxref01_Print.f k a0) (affluxref01_Print.f (k + 1) a0) := by
  intro a0 k
  have ih0 := affluxref01_Print.mono_l k
  unfold affluxref01_Print.f
  repeat' first
      | (with_reducible exact ih0 _ _ _ _)
      | (with_reducible exact affluxref01_Of.mono _ _)
      | (with_reducible exact LeO.refl _)
      | (with_reducible exact LeO.none _)
      | (with_reducible refine LeO.ite ?_ ?_)
      | (with_reducible refine LeO.bind ?_ (fun _ => ?_))
      | exact ih0 _ _ _ _
      | exact affluxref01_Of.mono _ _
      | exact LeO.none _
      | refine LeO.ite ?_ ?_
      | refine LeO.bind ?_ (fun _ => ?_)
set_option maxHeartbeats 8000000 in
set_option maxRecDepth 100000 in
theorem affluxref01_Print.calls (k : Nat) (a0 : Int) (r : ByteArray) (w : World) (h : affluxref01_Print.f k a0 = some r) :
    Calls Tryz.prog 86 #[.int .i64 a0] w fun e w' => e = .returned (.string r) ∧ Below w.heap.size w w' := by
  have hu168 := Tryz.underlying168
  have HB := Aside0.mk (Below.refl w.heap.size w)
  have H : ((affluxref01_Of.f k a0).bind fun bt141 => (if (bt141.2.length : Int) = 0 then (some (⟨#[48]⟩ : ByteArray)) else (affluxref01_Print.l0 k (⟨#[]⟩ : ByteArray) 0 bt141.1 bt141.2))) = some r := h
  clear h
  replace H := Option.bind_eq_some_iff.mp H
  obtain ⟨⟨t141, t142⟩, A20, H⟩ := H
  replace H : (if (t142.length : Int) = 0 then (some (⟨#[48]⟩ : ByteArray)) else (affluxref01_Print.l0 k (⟨#[]⟩ : ByteArray) 0 t141 t142)) = some r := H
  have A2 := Aside0.mk A20
  clear A20
  by_cases c3 : (t142.length : Int) = 0
  · rw [if_pos c3] at H
    have c3b0 : ((t142.length : Int) == 0) = true := beq_iff_eq.mpr c3
    have c3b1 : ((t142.length : Int) != 0) = false := bne_eq_false_iff_eq.mpr c3
    clear c3
    obtain rfl := Option.some.inj H
    go_enter Tryz.func86, Tryz.ntmps86
    go_wp2_with (first | ((with_reducible refine gate_callee (f := 124) rfl ?_); refine goesL_ (some 7) rfl rfl Tryz.func124 (by kernel_rfl) rfl #[.int .i64 a0] rfl (by (try simp only [List.map_toArray, List.map_cons, List.map_nil]); first | done | rfl | (simp only [List.length_drop, List.length_take, Int.toNat_natCast] <;> rfl)) ?_; (with_reducible refine (affluxref01_Of.calls k a0 t141 t142 _ A2.out).mono ?_); rintro e w4 ⟨v143, rfl, ho0, hb⟩; refine ⟨_, rfl, ?_⟩; have n0_ := Aside0.mk (Kd.V_lower (Kd.V_mono (ok' := fun k_ => True) ho0 (fun k_ hk_ => trivial)) (below_size (by repeat (first | (with_reducible first | exact HB.out | apply below_alloc | apply pw_below_drewN | apply below_drew1) | exact HB.out)))); have n1_ := Aside0.mk (below_step (by repeat (first | (with_reducible first | exact HB.out | apply below_alloc | apply pw_below_drewN | apply below_drew1) | exact HB.out)) hb); clear HB; have HO144 := n0_; have HB := n1_; clear n0_ n1_; (try clear hb); (try clear hb2); (try clear hk); (try clear hi); (try clear ho0)) | ((with_reducible refine gate_dst (N := 3) rfl ?_); refine box_event ?hg (N := 3) ?hd (cs := #[.bool false, .slice none 0 0]) (t := 168) ?hr ?_; (case hd => rfl); (case hg => rfl); (case hr => first | (go_simp; done) | (go_simp; rfl)); intro gb145 hg w5 hbox hb; have n0_ := Aside0.mk (Kd.V_below (Kd.V_elderB (by (with_reducible repeat (first | apply Kd.V_alloc | apply Kd.V_drewN | apply Kd.V_drew)); exact HO144.out) gb145 (Nat.le_of_eq hg.symm)) hb); have n1_ := Aside0.mk (below_step (by repeat (first | (with_reducible first | exact HB.out | apply below_alloc | apply pw_below_drewN | apply below_drew1) | exact HB.out)) hb); have n2_ := Aside0.mk (hbox); have n3_ := Aside0.mk ((by rw [hg]; exact (below_size (by repeat (first | (with_reducible first | exact HB.out | apply below_alloc | apply pw_below_drewN | apply below_drew1) | exact HB.out))) : w.heap.size ≤ gb145)); have n4_ := Aside0.mk ((by rw [hg]; exact (below_size (by repeat (first | (with_reducible first | exact HB.out | apply below_alloc | apply pw_below_drewN | apply below_drew1) | exact HB.out))) : w.heap.size ≤ gb145)); clear HO144; clear HB; have HO144 := n0_; have HB := n1_; have BK145 := n2_; have GW145 := n3_; have GE145 := n4_; clear n0_ n1_ n2_ n3_ n4_; clear hb hbox hg; have hcz6_0 : w5.cell? ⟨gb145, 0, none⟩ = some (.bool false) := (blk_cell BK145.out 0).trans rfl; have hcz6_1 : w5.cell? ⟨gb145, 1, none⟩ = some (.slice none 0 0) := (blk_cell BK145.out 1).trans rfl; have hfz6_0 := blk_frozen BK145.out 0; have hfz6_1 := blk_frozen BK145.out 1; obtain ⟨Ao7, co7, eo7⟩ := Kd.V_slice HO144.out; subst eo7))
    go_ret
    exact ⟨by first | rfl | (simp [errW_none, errW_some] <;> rfl) | (simp [*, errW_none, errW_some] <;> rfl), by repeat (first | (with_reducible first | exact HB.out | apply below_alloc | apply pw_below_drewN | apply below_drew1 | refine below_set ?_ GE145.out) | exact HB.out)⟩
  · rw [if_neg c3] at H
    have c3b0 : ((t142.length : Int) == 0) = false := beq_eq_false_iff_ne.mpr c3
    have c3b1 : ((t142.length : Int) != 0) = true := bne_iff_ne.mpr c3
    have c3b2 : ¬ (t142 = []) := fun h_ => c3 (by rw [h_]; rfl)
    have H' := Aside0.mk H
    clear H
    go_enter Tryz.func86, Tryz.ntmps86
    go_wp2_with (first | ((with_reducible refine gate_callee (f := 124) rfl ?_); refine goesL_ (some 7) rfl rfl Tryz.func124 (by kernel_rfl) rfl #[.int .i64 a0] rfl (by (try simp only [List.map_toArray, List.map_cons, List.map_nil]); first | done | rfl | (simp only [List.length_drop, List.length_take, Int.toNat_natCast] <;> rfl)) ?_; (with_reducible refine (affluxref01_Of.calls k a0 t141 t142 _ A2.out).mono ?_); rintro e w8 ⟨v143, rfl, ho0, hb⟩; refine ⟨_, rfl, ?_⟩; have n0_ := Aside0.mk (Kd.V_lower (Kd.V_mono (ok' := fun k_ => True) ho0 (fun k_ hk_ => trivial)) (below_size (by repeat (first | (with_reducible first | exact HB.out | apply below_alloc | apply pw_below_drewN | apply below_drew1) | exact HB.out)))); have n1_ := Aside0.mk (below_step (by repeat (first | (with_reducible first | exact HB.out | apply below_alloc | apply pw_below_drewN | apply below_drew1) | exact HB.out)) hb); clear HB; have HO144 := n0_; have HB := n1_; clear n0_ n1_; (try clear hb); (try clear hb2); (try clear hk); (try clear hi); (try clear ho0)) | ((with_reducible refine gate_dst (N := 3) rfl ?_); refine box_event ?hg (N := 3) ?hd (cs := #[.bool false, .slice none 0 0]) (t := 168) ?hr ?_; (case hd => rfl); (case hg => rfl); (case hr => first | (go_simp; done) | (go_simp; rfl)); intro gb145 hg w9 hbox hb; have n0_ := Aside0.mk (Kd.V_below (Kd.V_elderB (by (with_reducible repeat (first | apply Kd.V_alloc | apply Kd.V_drewN | apply Kd.V_drew)); exact HO144.out) gb145 (Nat.le_of_eq hg.symm)) hb); have n1_ := Aside0.mk (below_step (by repeat (first | (with_reducible first | exact HB.out | apply below_alloc | apply pw_below_drewN | apply below_drew1) | exact HB.out)) hb); have n2_ := Aside0.mk (hbox); have n3_ := Aside0.mk ((by rw [hg]; exact (below_size (by repeat (first | (with_reducible first | exact HB.out | apply below_alloc | apply pw_below_drewN | apply below_drew1) | exact HB.out))) : w.heap.size ≤ gb145)); have n4_ := Aside0.mk ((by rw [hg]; exact (below_size (by repeat (first | (with_reducible first | exact HB.out | apply below_alloc | apply pw_below_drewN | apply below_drew1) | exact HB.out))) : w.heap.size ≤ gb145)); clear HO144; clear HB; have HO144 := n0_; have HB := n1_; have BK145 := n2_; have GW145 := n3_; have GE145 := n4_; clear n0_ n1_ n2_ n3_ n4_; clear hb hbox hg; have hcz10_0 : w9.cell? ⟨gb145, 0, none⟩ = some (.bool false) := (blk_cell BK145.out 0).trans rfl; have hcz10_1 : w9.cell? ⟨gb145, 1, none⟩ = some (.slice none 0 0) := (blk_cell BK145.out 1).trans rfl; have hfz10_0 := blk_frozen BK145.out 0; have hfz10_1 := blk_frozen BK145.out 1; obtain ⟨Ao11, co11, eo11⟩ := Kd.V_slice HO144.out; subst eo11))
    go_loopg [4, 5] k (fun kq v4 v5 w' => ∃ (x4_1 : ByteArray) (x5_1 : Int), v4 = .string x4_1 ∧ v5 = .int .i64 x5_1 ∧ Aside0 (affluxref01_Print.l0 kq x4_1 x5_1 t141 t142 = some r) ∧ Aside0 (kq ≤ k) ∧ Aside0 (Kd.V (Kd.int .i64) 3 w' w.heap.size (fun k_ => k_ ≠ gb145) (.slice Ao11 t142.length co11) t142) ∧ Aside0 (w'.heap[gb145]? = some (.cells #[.bool t141, (.slice Ao11 t142.length co11)] 168 (0, 0))) ∧ Aside0 (Below w.heap.size w w'))
    case atStart => exact ⟨((⟨#[]⟩ : ByteArray)), (0), (by first | rfl | (simp; done) | (simp [*]; done)), (by first | rfl | (simp; done) | (simp [*]; done)), H', ⟨Nat.le_refl _⟩, ⟨by (with_reducible repeat (first | apply Kd.V_alloc | apply Kd.V_drewN | apply Kd.V_drew)); exact Kd.V_mono (Kd.V_far (p := ⟨gb145, 1, none⟩) (Kd.V_far (p := ⟨gb145, 0, none⟩) (Kd.V_mono HO144.out (fun k_ hk => (⟨hk, hk.2⟩ : _ ∧ k_ ≠ gb145))) (fun _ hk => hk.2) (.bool t141)) (fun _ hk => hk.2) (.slice Ao11 t142.length co11)) (fun _ hk => hk.1.2)⟩, ⟨by (with_reducible repeat (first | refine blk_drewN ?_ _ | refine blk_drew ?_ | refine blk_alloc ?_ _)); refine blk_put (cs := #[.bool t141, .slice none 0 0]) ?_ 1 _ rfl; (with_reducible repeat (first | refine blk_drewN ?_ _ | refine blk_drew ?_ | refine blk_alloc ?_ _)); refine blk_put (cs := #[.bool false, .slice none 0 0]) ?_ 0 _ rfl; (with_reducible repeat (first | refine blk_drewN ?_ _ | refine blk_drew ?_ | refine blk_alloc ?_ _)); exact BK145.out⟩, ⟨by repeat (first | (with_reducible first | exact HB.out | apply below_alloc | apply pw_below_drewN | apply below_drew1 | refine below_set ?_ GE145.out) | exact HB.out)⟩⟩
    case round =>
      clear H'
      try clear c1
      try clear p2
      try clear c3
      try clear c3b0
      try clear c3b1
      try clear c3b2
      try clear c8
      try clear hcz10_0
      try clear hcz10_1
      try clear hcz6_0
      try clear hcz6_1
      try clear hfz10_0
      try clear hfz10_1
      try clear hfz6_0
      try clear hfz6_1
      obtain ⟨x4_1, x5_1, rfl, rfl, HA, HK1, HO_146001, BK145, HB⟩ := hrel
      cases gk with
      | zero => exact absurd HA.out (by simp [affluxref01_Print.l0])
      | succ k1 =>
        have H := HA.out
        clear HA
        simp only [affluxref01_Print.l0] at H
        by_cases c12 : x5_1 < (t142.length : Int)
        · rw [if_pos c12] at H
          have c12b0 : decide (x5_1 < (t142.length : Int)) = true := decide_eq_true c12
          clear c12
          by_cases c13 : 0 ≤ x5_1
          · rw [if_pos c13] at H
            have c13b0 : decide (0 ≤ x5_1) = true := decide_eq_true c13
            clear c13
            obtain ⟨y147, hy147⟩ : ∃ y_ : List Int, y_ = (([(wrap64 (48 + (rd t142 x5_1))) % 256] : List Int)) := ⟨_, rfl⟩
            replace H : (if (strOfNums y147).size + x4_1.size ≤ 9223372036854775807 then (affluxref01_Print.l0 k1 ((strOfNums y147) ++ x4_1) (wrap64 (x5_1 + 1)) t141 t142) else (none)) = some r := by first | (rw [hy147]; with_reducible exact H) | (have H2_ := (Option.bind_some _ _).symm.trans H; rw [hy147]; with_reducible exact H2_) | (have H2_ := (Option.bind_some _ _).symm.trans H; with_reducible exact H2_) | with_reducible exact H | (rw [hy147]; exact H) | exact H
            have Ny147 := Aside0.mk hy147
            clear hy147
            by_cases c14 : (strOfNums y147).size + x4_1.size ≤ 9223372036854775807
            · rw [if_pos c14] at H
              have c14b0 := eq_true c14
              have c14b1 : decide ((strOfNums y147).size + x4_1.size ≤ 9223372036854775807) = true := decide_eq_true c14
              try have c14b2 : (9223372036854775807 < (strOfNums y147).size + x4_1.size) = False := eq_false (Nat.not_lt.2 c14)
              have H' := Aside0.mk H
              clear H
              have hcz15_0 : wr.cell? ⟨gb145, 0, none⟩ = some (.bool t141) := (blk_cell BK145.out 0).trans rfl
              have hcz15_1 : wr.cell? ⟨gb145, 1, none⟩ = some (.slice Ao11 t142.length co11) := (blk_cell BK145.out 1).trans rfl
              have hfz15_0 := blk_frozen BK145.out 0
              have hfz15_1 := blk_frozen BK145.out 1
              have p146 : 0 ≤ (x5_1 : Int) := of_decide_eq_true (by first | (with_reducible assumption) | assumption)
              have q146 : x5_1 < (t142.length : Int) := of_decide_eq_true (by first | (with_reducible assumption) | assumption)
              obtain ⟨ad146, e146, hx146_0⟩ := Kd.at_int (Kd.V_reads' HO_146001.out).2.2 x5_1 p146 q146
              cases e146
              replace p146 := eq_true p146
              replace q146 := eq_true q146
              go_wp2_with (first | ((with_reducible refine gate_dst (N := 26) rfl ?_); refine Kd.R_lit (Kd.int .u8) _ 5 ?hg (N := 26) ?hd (xs := ([(wrap64 (48 + (rd t142 x5_1))) % 256] : List Int)) (inner := [.int .u8 ((wrap64 (48 + (rd t142 x5_1))) % 256)]) (ok := fun _ => True) (okp := fun _ => True) ?hr ?hp (fun _ hk => hk) trivial (Below.refl _ _) (Nat.le_refl _) (by simp) ?_; (case hd => rfl); (case hg => rfl); (case hr => first | (go_simp; done) | (go_simp; rfl)); (case hp => exact (Reps.one (show Kd.M (Kd.int .u8) _ _ _ ((wrap64 (48 + (rd t142 x5_1))) % 256) [.int .u8 ((wrap64 (48 + (rd t142 x5_1))) % 256)] from rfl) (Reps.none _ _))); intro v148 w16 ho17 hb hg_ hnew_; clear hg_ hnew_; (first | rw [← Ny147.out] at ho17 | (simp only [Int.reduceToNat] at ho17; rw [← Ny147.out] at ho17)); have n0_ := Aside0.mk (Kd.V_elder' (by (with_reducible repeat (first | apply Kd.V_alloc | apply Kd.V_drewN | apply Kd.V_drew)); exact HO_146001.out) (Kd.R_base ho17) hb); have n1_ := Aside0.mk (Kd.R_lower ho17 (below_size (by repeat (first | (with_reducible first | exact HB.out | apply below_alloc | apply pw_below_drewN | apply below_drew1 | refine below_set ?_ GE145.out) | exact HB.out)))); have n2_ := Aside0.mk (blk_below (g := gb145) (o := .cells #[.bool t141, .slice (some ad146) t142.length co11] 168 (0, 0)) (by (with_reducible repeat (first | refine blk_drewN ?_ _ | refine blk_drew ?_ | refine blk_alloc ?_ _)); exact BK145.out) hb); have n3_ := Aside0.mk (below_step (by repeat (first | (with_reducible first | exact HB.out | apply below_alloc | apply pw_below_drewN | apply below_drew1 | refine below_set ?_ GE145.out) | exact HB.out)) hb); clear HO_146001; clear BK145; clear HB; have HO_146001 := n0_; have HO149 := n1_; have BK145 := n2_; have HB := n3_; clear n0_ n1_ n2_ n3_; clear hb ho17; have hcv18 := own_string (P := Tryz.prog) Tryz.underlying25 Tryz.underlying5 Tryz.underlying9 (Kd.own_of_R HO149.out)))
              go_roundg k1
              case measure => have := HK1.out; omega
              case rel => exact ⟨((strOfNums y147) ++ x4_1), (wrap64 (x5_1 + 1)), (by first | rfl | (simp; done) | (simp [*]; done)), (by first | rfl | (simp; done) | (simp [*]; done)), H', ⟨by have := HK1.out; omega⟩, ⟨by (with_reducible repeat (first | apply Kd.V_alloc | apply Kd.V_drewN | apply Kd.V_drew)); exact Kd.V_mono HO_146001.out (fun _ hk => hk.1)⟩, ⟨by (with_reducible repeat (first | refine blk_drewN ?_ _ | refine blk_drew ?_ | refine blk_alloc ?_ _)); exact BK145.out⟩, ⟨by repeat (first | (with_reducible first | exact HB.out | apply below_alloc | apply pw_below_drewN | apply below_drew1 | refine below_set ?_ GE145.out) | exact HB.out)⟩⟩
            · rw [if_neg c14] at H
              exact absurd H (by simp)
          · rw [if_neg c13] at H
            exact absurd H (by simp)
        · rw [if_neg c12] at H
          have c12b0 : decide (x5_1 < (t142.length : Int)) = false := decide_eq_false c12
          clear c12
          by_cases c19 : t141 = true
          · subst c19
            have H1 : (if 1 + x4_1.size ≤ 9223372036854775807 then (some ((⟨#[45]⟩ : ByteArray) ++ x4_1)) else (none)) = some r := by rw [if_pos rfl] at H; exact H
            clear H
            have H := H1
            clear H1
            by_cases c20 : 1 + x4_1.size ≤ 9223372036854775807
            · rw [if_pos c20] at H
              have c20b0 := eq_true c20
              have c20b1 : decide (1 + x4_1.size ≤ 9223372036854775807) = true := decide_eq_true c20
              try have c20b2 : (9223372036854775807 < 1 + x4_1.size) = False := eq_false (Nat.not_lt.2 c20)
              obtain rfl := Option.some.inj H
              have hcz21_0 : wr.cell? ⟨gb145, 0, none⟩ = some (.bool true) := (blk_cell BK145.out 0).trans rfl
              have hcz21_1 : wr.cell? ⟨gb145, 1, none⟩ = some (.slice Ao11 t142.length co11) := (blk_cell BK145.out 1).trans rfl
              have hfz21_0 := blk_frozen BK145.out 0
              have hfz21_1 := blk_frozen BK145.out 1
              go_wp2
              go_ret
              exact ⟨by first | rfl | (simp [errW_none, errW_some] <;> rfl) | (simp [*, errW_none, errW_some] <;> rfl), by repeat (first | (with_reducible first | exact HB.out | apply below_alloc | apply pw_below_drewN | apply below_drew1 | refine below_set ?_ GE145.out) | exact HB.out)⟩
            · rw [if_neg c20] at H
              exact absurd H (by simp)
          · replace c19 := Bool.eq_false_iff.mpr c19
            subst c19
            have H1 : (some x4_1) = some r := by rw [if_neg (show ¬ (false = true) by decide)] at H; exact H
            clear H
            have H := H1
            clear H1
            obtain rfl := Option.some.inj H
            have hcz22_0 : wr.cell? ⟨gb145, 0, none⟩ = some (.bool false) := (blk_cell BK145.out 0).trans rfl
            have hcz22_1 : wr.cell? ⟨gb145, 1, none⟩ = some (.slice Ao11 t142.length co11) := (blk_cell BK145.out 1).trans rfl
            have hfz22_0 := blk_frozen BK145.out 0
            have hfz22_1 := blk_frozen BK145.out 1
            go_wp2
            go_ret
            exact ⟨by first | rfl | (simp [errW_none, errW_some] <;> rfl) | (simp [*, errW_none, errW_some] <;> rfl), by repeat (first | (with_reducible first | exact HB.out | apply below_alloc | apply pw_below_drewN | apply below_drew1 | refine below_set ?_ GE145.out) | exact HB.out)⟩

/-! ### affluxref26_Name: function 24 -/
def affluxref26_Name.l0 : Nat → ByteArray → Option (ByteArray)
  | 0, _ => none
  | k + 1, x3 => if (x3.size : Int) < 8 then (if 1 + x3.size ≤ 9223372036854775807 then (affluxref26_Name.l0 k ((⟨#[48]⟩ : ByteArray) ++ x3)) else (none)) else (if 2 + x3.size ≤ 9223372036854775807 then (some ((⟨#[115, 46]⟩ : ByteArray) ++ x3)) else (none))
def affluxref26_Name.f (k : Nat) (a0 : Int) : Option (ByteArray) := (affluxref01_Print.f k a0).bind fun t150 => (affluxref26_Name.l0 k t150)
theorem affluxref26_Name.mono_l : ∀ k, (∀ y0, LeO (affluxref26_Name.l0 k y0) (affluxref26_Name.l0 (k + 1) y0))
  | 0 => fun _ r h => by simp [affluxref26_Name.l0] at h
  | k + 1 => by
    have ih0 := affluxref26_Name.mono_l k
    · intro y0
      unfold affluxref26_Name.l0
      repeat' first
      | (with_reducible exact ih0 _)
      | (with_reducible exact affluxref01_Print.mono _ _)
      | (with_reducible exact LeO.refl _)
      | (with_reducible exact LeO.none _)
      | (with_reducible refine LeO.ite ?_ ?_)
      | (with_reducible refine LeO.bind ?_ (fun _ => ?_))
      | exact ih0 _
      | exact affluxref01_Print.mono _ _
      | exact LeO.none _
      | refine LeO.ite ?_ ?_
      | refine LeO.bind ?_ (fun _ => ?_)
theorem affluxref26_Name.mono : ∀ a0 k, LeO (affluxref26_Name.f k a0) (affluxref26_Name.f (k + 1) a0) := by
  intro a0 k
  have ih0 := affluxref26_Name.mono_l k
  unfold affluxref26_Name.f
  repeat' first
      | (with_reducible exact ih0 _)
      | (with_reducible exact affluxref01_Print.mono _ _)
      | (with_reducible exact LeO.refl _)
      | (with_reducible exact LeO.none _)
      | (with_reducible refine LeO.ite ?_ ?_)
      | (with_reducible refine LeO.bind ?_ (fun _ => ?_))
      | exact ih0 _
      | exact affluxref01_Print.mono _ _
      | exact LeO.none _
      | refine LeO.ite ?_ ?_
      | refine LeO.bind ?_ (fun _ => ?_)
set_option maxHeartbeats 8000000 in
set_option maxRecDepth 100000 in
theorem affluxref26_Name.calls (k : Nat) (a0 : Int) (r : ByteArray) (w : World) (h : affluxref26_Name.f k a0 = some r) :
    Calls Tryz.prog 24 #[.int .i64 a0] w fun e w' => e = .returned (.string r) ∧ Below w.heap.size w w' := by
  have HB := Aside0.mk (Below.refl w.heap.size w)
  have H : ((affluxref01_Print.f k a0).bind fun t150 => (affluxref26_Name.l0 k t150)) = some r := h
  clear h
  replace H := Option.bind_eq_some_iff.mp H
  obtain ⟨t150, A20, H⟩ := H
  replace H : (affluxref26_Name.l0 k t150) = some r := H
  have A2 := Aside0.mk A20
  clear A20
  have H' := Aside0.mk H
  clear H
  go_enter Tryz.func24, Tryz.ntmps24
  go_wp2_with (first | ((with_reducible refine gate_callee (f := 86) rfl ?_); refine goesL_ (some 5) rfl rfl Tryz.func86 (by kernel_rfl) rfl #[.int .i64 a0] rfl (by (try simp only [List.map_toArray, List.map_cons, List.map_nil]); first | done | rfl | (simp only [List.length_drop, List.length_take, Int.toNat_natCast] <;> rfl)) ?_; (with_reducible refine (affluxref01_Print.calls k a0 t150 _ A2.out).mono ?_); rintro e w3 ⟨rfl, hb⟩; refine ⟨_, rfl, ?_⟩; have n0_ := Aside0.mk (below_step (by repeat (first | (with_reducible first | exact HB.out | apply below_alloc | apply pw_below_drewN | apply below_drew1) | exact HB.out)) hb); clear HB; have HB := n0_; clear n0_; (try clear hb); (try clear hb2); (try clear hk); (try clear hi)))
  go_loopg [3] k (fun kq v3 w' => ∃ (x3_1 : ByteArray), v3 = .string x3_1 ∧ Aside0 (affluxref26_Name.l0 kq x3_1 = some r) ∧ Aside0 (kq ≤ k) ∧ Aside0 (Below w.heap.size w w'))
  case atStart => exact ⟨(t150), (by first | rfl | (simp; done) | (simp [*]; done)), H', ⟨Nat.le_refl _⟩, ⟨by repeat (first | (with_reducible first | exact HB.out | apply below_alloc | apply pw_below_drewN | apply below_drew1) | exact HB.out)⟩⟩
  case round =>
    clear H'
    try clear c2
    try clear p2
    obtain ⟨x3_1, rfl, HA, HK1, HB⟩ := hrel
    cases gk with
    | zero => exact absurd HA.out (by simp [affluxref26_Name.l0])
    | succ k1 =>
      have H := HA.out
      clear HA
      simp only [affluxref26_Name.l0] at H
      by_cases c4 : (x3_1.size : Int) < 8
      · rw [if_pos c4] at H
        have c4b0 : decide ((x3_1.size : Int) < 8) = true := decide_eq_true c4
        have c4b1 : decide (x3_1.size < 8) = true := decide_eq_true (by omega)
        clear c4
        by_cases c5 : 1 + x3_1.size ≤ 9223372036854775807
        · rw [if_pos c5] at H
          have c5b0 := eq_true c5
          have c5b1 : decide (1 + x3_1.size ≤ 9223372036854775807) = true := decide_eq_true c5
          try have c5b2 : (9223372036854775807 < 1 + x3_1.size) = False := eq_false (Nat.not_lt.2 c5)
          have H' := Aside0.mk H
          clear H
          go_wp2
          go_roundg k1
          case measure => have := HK1.out; omega
          case rel => exact ⟨((⟨#[48]⟩ : ByteArray) ++ x3_1), (by first | rfl | (simp; done) | (simp [*]; done)), H', ⟨by have := HK1.out; omega⟩, ⟨by repeat (first | (with_reducible first | exact HB.out | apply below_alloc | apply pw_below_drewN | apply below_drew1) | exact HB.out)⟩⟩
        · rw [if_neg c5] at H
          exact absurd H (by simp)
      · rw [if_neg c4] at H
        have c4b0 : decide ((x3_1.size : Int) < 8) = false := decide_eq_false c4
        have c4b1 : decide (x3_1.size < 8) = false := decide_eq_false (by omega)
        clear c4
        by_cases c6 : 2 + x3_1.size ≤ 9223372036854775807
        · rw [if_pos c6] at H
          have c6b0 := eq_true c6
          have c6b1 : decide (2 + x3_1.size ≤ 9223372036854775807) = true := decide_eq_true c6
          try have c6b2 : (9223372036854775807 < 2 + x3_1.size) = False := eq_false (Nat.not_lt.2 c6)
          obtain rfl := Option.some.inj H
          go_wp2
          go_ret
          exact ⟨by first | rfl | (simp [errW_none, errW_some] <;> rfl) | (simp [*, errW_none, errW_some] <;> rfl), by repeat (first | (with_reducible first | exact HB.out | apply below_alloc | apply pw_below_drewN | apply below_drew1) | exact HB.out)⟩
        · rw [if_neg c6] at H
          exact absurd H (by simp)

/-! ### affluxref26_Data: function 27 -/
mutual
def affluxref26_Data.j0 : Nat → Int → ByteArray → List ByteArray → Bool → Option (ByteArray × Bool)
  | 0, _, _, _, _ => none
  | k + 1, x0, x1, x6, x23 => if x23 = true then (some ((⟨#[]⟩ : ByteArray), false)) else (affluxref26_Data.l0 k x0 x1 x6 (⟨#[]⟩ : ByteArray) 1)
def affluxref26_Data.l0 : Nat → Int → ByteArray → List ByteArray → ByteArray → Int → Option (ByteArray × Bool)
  | 0, _, _, _, _, _ => none
  | k + 1, x0, x1, x6, x9, x10 => if x10 < (x6.length : Int) then (if 0 ≤ x10 then (if x9.size + (rdOf ByteArray.empty x6 x10).size ≤ 9223372036854775807 then (affluxref26_Data.l0 k x0 x1 x6 (x9 ++ (rdOf ByteArray.empty x6 x10)) (wrap64 (x10 + 1))) else (none)) else (none)) else (if (x9.size : Int) ≤ 960000 then ((affluxref26_File.f k x0 x9).bind fun t157 => (some (x9, (t157.toList == x1.toList)))) else (some (x9, false)))
end
def affluxref26_Data.f (k : Nat) (a0 : Int) (a1 : ByteArray) : Option (ByteArray × Bool) := (affluxref05_All.f k a1).bind fun bt151 => (if bt151.2.2 = 0 then (affluxref26_Data.j0 k a0 a1 bt151.1 ((bt151.1.length : Int) == 0)) else (affluxref26_Data.j0 k a0 a1 bt151.1 true))
theorem affluxref26_Data.mono_l : ∀ k, (∀ y0 y1 y2 y3, LeO (affluxref26_Data.j0 k y0 y1 y2 y3) (affluxref26_Data.j0 (k + 1) y0 y1 y2 y3)) ∧ (∀ y0 y1 y2 y3 y4, LeO (affluxref26_Data.l0 k y0 y1 y2 y3 y4) (affluxref26_Data.l0 (k + 1) y0 y1 y2 y3 y4))
  | 0 => ⟨fun _ _ _ _ r h => by simp [affluxref26_Data.j0] at h, fun _ _ _ _ _ r h => by simp [affluxref26_Data.l0] at h⟩
  | k + 1 => by
    obtain ⟨ih0, ih1⟩ := affluxref26_Data.mono_l k
    refine ⟨?_, ?_⟩
    · intro y0 y1 y2 y3
      unfold affluxref26_Data.j0
      repeat' first
      | (with_reducible exact ih0 _ _ _ _)
      | (with_reducible exact ih1 _ _ _ _ _)
      | (with_reducible exact affluxref05_All.mono _ _)
      | (with_reducible exact affluxref26_File.mono _ _ _)
      | (with_reducible exact LeO.refl _)
      | (with_reducible exact LeO.none _)
      | (with_reducible refine LeO.ite ?_ ?_)
      | (with_reducible refine LeO.bind ?_ (fun _ => ?_))
      | exact ih0 _ _ _ _
      | exact ih1 _ _ _ _ _
      | exact affluxref05_All.mono _ _
      | exact affluxref26_File.mono _ _ _
      | exact LeO.none _
      | refine LeO.ite ?_ ?_
      | refine LeO.bind ?_ (fun _ => ?_)
    · intro y0 y1 y2 y3 y4
      unfold affluxref26_Data.l0
      repeat' first
      | (with_reducible exact ih0 _ _ _ _)
      | (with_reducible exact ih1 _ _ _ _ _)
      | (with_reducible exact affluxref05_All.mono _ _)
      | (with_reducible exact affluxref26_File.mono _ _ _)
      | (with_reducible exact LeO.refl _)
      | (with_reducible exact LeO.none _)
      | (with_reducible refine LeO.ite ?_ ?_)
      | (with_reducible refine LeO.bind ?_ (fun _ => ?_))
      | exact ih0 _ _ _ _
      | exact ih1 _ _ _ _ _
      | exact affluxref05_All.mono _ _
      | exact affluxref26_File.mono _ _ _
      | exact LeO.none _
      | refine LeO.ite ?_ ?_
      | refine LeO.bind ?_ (fun _ => ?_)
theorem affluxref26_Data.mono : ∀ a0 a1 k, LeO (affluxref26_Data.f k a0 a1) (affluxref26_Data.f (k + 1) a0 a1) := by
  intro a0 a1 k
  obtain ⟨ih0, ih1⟩ := affluxref26_Data.mono_l k
  unfold affluxref26_Data.f
  repeat' first
      | (with_reducible exact ih0 _ _ _ _)
      | (with_reducible exact ih1 _ _ _ _ _)
      | (with_reducible exact affluxref05_All.mono _ _)
      | (with_reducible exact affluxref26_File.mono _ _ _)
      | (with_reducible exact LeO.refl _)
      | (with_reducible exact LeO.none _)
      | (with_reducible refine LeO.ite ?_ ?_)
      | (with_reducible refine LeO.bind ?_ (fun _ => ?_))
      | exact ih0 _ _ _ _
      | exact ih1 _ _ _ _ _
      | exact affluxref05_All.mono _ _
      | exact affluxref26_File.mono _ _ _
      | exact LeO.none _
      | refine LeO.ite ?_ ?_
      | refine LeO.bind ?_ (fun _ => ?_)
set_option maxHeartbeats 8000000 in
set_option maxRecDepth 100000 in
theorem affluxref26_Data.calls (k : Nat) (a0 : Int) (a1 : ByteArray) (r1 : ByteArray) (r2 : Bool) (w : World) (h : affluxref26_Data.f k a0 a1 = some (r1, r2)) :
    Calls Tryz.prog 27 #[.int .i64 a0, .string a1] w fun e w' => e = .returned (.tuple #[.string r1, .bool r2]) ∧ Below w.heap.size w w' := by
  have HB := Aside0.mk (Below.refl w.heap.size w)
  have H : ((affluxref05_All.f k a1).bind fun bt151 => (if bt151.2.2 = 0 then (affluxref26_Data.j0 k a0 a1 bt151.1 ((bt151.1.length : Int) == 0)) else (affluxref26_Data.j0 k a0 a1 bt151.1 true))) = some (r1, r2) := h
  clear h
  replace H := Option.bind_eq_some_iff.mp H
  obtain ⟨⟨t151, t152, t153⟩, A30, H⟩ := H
  replace H : (if t153 = 0 then (affluxref26_Data.j0 k a0 a1 t151 ((t151.length : Int) == 0)) else (affluxref26_Data.j0 k a0 a1 t151 true)) = some (r1, r2) := H
  have A3 := Aside0.mk A30
  clear A30
  have HC4 := Aside0.mk H
  clear H
  go_enter Tryz.func27, Tryz.ntmps27
  go_upto_region 2 with (first | ((with_reducible refine gate_callee (f := 87) rfl ?_); refine goesL_ (some 13) rfl rfl Tryz.func87 (by kernel_rfl) rfl #[.string a1] rfl (by (try simp only [List.map_toArray, List.map_cons, List.map_nil]); first | done | rfl | (simp only [List.length_drop, List.length_take, Int.toNat_natCast] <;> rfl)) ?_; (with_reducible refine (affluxref05_All.calls k a1 t151 t152 t153 _ A3.out).mono ?_); rintro e w5 ⟨v154, rfl, ho0, hb⟩; refine ⟨_, rfl, ?_⟩; have n0_ := Aside0.mk (Kd.R_lower ho0 (below_size (by repeat (first | (with_reducible first | exact HB.out | apply below_alloc | apply pw_below_drewN | apply below_drew1) | exact HB.out)))); have n1_ := Aside0.mk (below_step (by repeat (first | (with_reducible first | exact HB.out | apply below_alloc | apply pw_below_drewN | apply below_drew1) | exact HB.out)) hb); clear HB; have HO155 := n0_; have HB := n1_; clear n0_ n1_; (try clear hb); (try clear hb2); (try clear hk); (try clear hi); (try clear ho0)))
  (try simp only [Act.put, List.setIfInBounds_toArray, List.set_cons_zero, List.set_cons_succ])
  go_cut [23] (fun v23 wc => ∃ (kq : Nat) (x23_3 : Bool), v23 = .bool x23_3 ∧ Aside0 (affluxref26_Data.j0 kq a0 a1 t151 x23_3 = some (r1, r2)) ∧ Aside0 (kq ≤ k) ∧ Aside0 (Kd.R Kd.string 9 wc w.heap.size (fun _ => True) v154 t151) ∧ Aside0 (Below w.heap.size w wc))
  case first =>
    have H := HC4.out
    clear HC4
    by_cases c6 : t153 = 0
    · rw [if_pos c6] at H
      have c6b0 : (t153 == 0) = true := beq_iff_eq.mpr c6
      have c6b1 : (t153 != 0) = false := bne_eq_false_iff_eq.mpr c6
      clear c6
      (first | rw [c6b0] | (simp only [i64_w, i32_w]; rw [c6b0]) | skip)
      have H' := Aside0.mk H
      clear H
      obtain ⟨Ao7, co7, eo7⟩ := Kd.R_slice HO155.out
      subst eo7
      go_wp2
      go_meet
      case rel => exact ⟨_, (((t151.length : Int) == 0)), (by first | rfl | (simp; done) | (simp [*]; done)), H', ⟨by first | omega | exact Nat.le_refl _⟩, ⟨by (with_reducible repeat (first | apply Kd.R_alloc | apply Kd.R_drewN | apply Kd.R_drew)); exact HO155.out⟩, ⟨by repeat (first | (with_reducible first | exact HB.out | apply below_alloc | apply pw_below_drewN | apply below_drew1) | exact HB.out)⟩⟩
    · rw [if_neg c6] at H
      have c6b0 : (t153 == 0) = false := beq_eq_false_iff_ne.mpr c6
      have c6b1 : (t153 != 0) = true := bne_iff_ne.mpr c6
      (first | rw [c6b0] | (simp only [i64_w, i32_w]; rw [c6b0]) | skip)
      have H' := Aside0.mk H
      clear H
      go_wp2
      go_meet
      case rel => exact ⟨_, (true), (by first | rfl | (simp; done) | (simp [*]; done)), H', ⟨by first | omega | exact Nat.le_refl _⟩, ⟨by (with_reducible repeat (first | apply Kd.R_alloc | apply Kd.R_drewN | apply Kd.R_drew)); exact HO155.out⟩, ⟨by repeat (first | (with_reducible first | exact HB.out | apply below_alloc | apply pw_below_drewN | apply below_drew1) | exact HB.out)⟩⟩
  case rest =>
    clear HC4
    try clear c2
    try clear p2
    try clear c6
    try clear c6b0
    try clear c6b1
    obtain ⟨kq, x23_3, rfl, HA, HJ3, HO_6, HB⟩ := hcut
    cases kq with
    | zero => exact absurd HA.out (by simp [affluxref26_Data.j0])
    | succ kj3 =>
      have H := HA.out
      clear HA
      simp only [affluxref26_Data.j0] at H
      by_cases c8 : x23_3 = true
      · subst c8
        have H1 : (some ((⟨#[]⟩ : ByteArray), false)) = some (r1, r2) := by rw [if_pos rfl] at H; exact H
        clear H
        have H := H1
        clear H1
        simp only [Option.some.injEq, Prod.mk.injEq] at H
        obtain ⟨rfl, rfl⟩ := H
        go_wp2
        go_ret2
        exact ⟨by first | rfl | (simp [errW_none, errW_some] <;> rfl) | (simp [*, errW_none, errW_some] <;> rfl), by repeat (first | (with_reducible first | exact HB.out | apply below_alloc | apply pw_below_drewN | apply below_drew1) | exact HB.out)⟩
      · replace c8 := Bool.eq_false_iff.mpr c8
        subst c8
        have H1 : (affluxref26_Data.l0 kj3 a0 a1 t151 (⟨#[]⟩ : ByteArray) 1) = some (r1, r2) := by rw [if_neg (show ¬ (false = true) by decide)] at H; exact H
        clear H
        have H := H1
        clear H1
        have H' := Aside0.mk H
        clear H
        go_wp2
        go_loopg [9, 10] kj3 (fun kq v9 v10 w' => ∃ (x9_2 : ByteArray) (x10_2 : Int), v9 = .string x9_2 ∧ v10 = .int .i64 x10_2 ∧ Aside0 (affluxref26_Data.l0 kq a0 a1 t151 x9_2 x10_2 = some (r1, r2)) ∧ Aside0 (kq ≤ kj3) ∧ Aside0 (Kd.R Kd.string 9 w' w.heap.size (fun _ => True) v154 t151) ∧ Aside0 (Below w.heap.size w w'))
        case atStart => exact ⟨((⟨#[]⟩ : ByteArray)), (1), (by first | rfl | (simp; done) | (simp [*]; done)), (by first | rfl | (simp; done) | (simp [*]; done)), H', ⟨Nat.le_refl _⟩, ⟨by (with_reducible repeat (first | apply Kd.R_alloc | apply Kd.R_drewN | apply Kd.R_drew)); exact HO_6.out⟩, ⟨by repeat (first | (with_reducible first | exact HB.out | apply below_alloc | apply pw_below_drewN | apply below_drew1) | exact HB.out)⟩⟩
        case round =>
          clear H'
          try clear c2
          try clear p2
          try clear c6
          try clear c6b0
          try clear c6b1
          try clear c8
          try clear p2
          obtain ⟨x9_2, x10_2, rfl, rfl, HA, HK2, HO_6, HB⟩ := hrel
          cases gk with
          | zero => exact absurd HA.out (by simp [affluxref26_Data.l0])
          | succ k2 =>
            have H := HA.out
            clear HA
            simp only [affluxref26_Data.l0] at H
            by_cases c9 : x10_2 < (t151.length : Int)
            · rw [if_pos c9] at H
              have c9b0 : decide (x10_2 < (t151.length : Int)) = true := decide_eq_true c9
              clear c9
              by_cases c10 : 0 ≤ x10_2
              · rw [if_pos c10] at H
                have c10b0 : decide (0 ≤ x10_2) = true := decide_eq_true c10
                clear c10
                by_cases c11 : x9_2.size + (rdOf ByteArray.empty t151 x10_2).size ≤ 9223372036854775807
                · rw [if_pos c11] at H
                  have c11b0 := eq_true c11
                  have c11b1 : decide (x9_2.size + (rdOf ByteArray.empty t151 x10_2).size ≤ 9223372036854775807) = true := decide_eq_true c11
                  try have c11b2 : (9223372036854775807 < x9_2.size + (rdOf ByteArray.empty t151 x10_2).size) = False := eq_false (Nat.not_lt.2 c11)
                  have H' := Aside0.mk H
                  clear H
                  obtain ⟨Ao12, co12, eo12⟩ := Kd.R_slice HO_6.out
                  subst eo12
                  have p156 : 0 ≤ (x10_2 : Int) := of_decide_eq_true (by first | (with_reducible assumption) | assumption)
                  have q156 : x10_2 < (t151.length : Int) := of_decide_eq_true (by first | (with_reducible assumption) | assumption)
                  obtain ⟨ad156, e156, hx156_0⟩ := Kd.at_string (Kd.R_reads' HO_6.out).2.2 x10_2 p156 q156
                  cases e156
                  replace p156 := eq_true p156
                  replace q156 := eq_true q156
                  go_wp2
                  go_roundg k2
                  case measure => have := HJ3.out; have := HK2.out; omega
                  case rel => exact ⟨(x9_2 ++ (rdOf ByteArray.empty t151 x10_2)), (wrap64 (x10_2 + 1)), (by first | rfl | (simp; done) | (simp [*]; done)), (by first | rfl | (simp; done) | (simp [*]; done)), H', ⟨by have := HJ3.out; have := HK2.out; omega⟩, ⟨by (with_reducible repeat (first | apply Kd.R_alloc | apply Kd.R_drewN | apply Kd.R_drew)); exact HO_6.out⟩, ⟨by repeat (first | (with_reducible first | exact HB.out | apply below_alloc | apply pw_below_drewN | apply below_drew1) | exact HB.out)⟩⟩
                · rw [if_neg c11] at H
                  exact absurd H (by simp)
              · rw [if_neg c10] at H
                exact absurd H (by simp)
            · rw [if_neg c9] at H
              have c9b0 : decide (x10_2 < (t151.length : Int)) = false := decide_eq_false c9
              clear c9
              by_cases c13 : (x9_2.size : Int) ≤ 960000
              · rw [if_pos c13] at H
                have c13b0 : decide ((x9_2.size : Int) ≤ 960000) = true := decide_eq_true c13
                have c13b1 : decide (x9_2.size ≤ 960000) = true := decide_eq_true (by omega)
                clear c13
                replace H := Option.bind_eq_some_iff.mp H
                obtain ⟨t157, A140, H⟩ := H
                replace H : (some (x9_2, (t157.toList == a1.toList))) = some (r1, r2) := H
                have A14 := Aside0.mk A140
                clear A140
                simp only [Option.some.injEq, Prod.mk.injEq] at H
                obtain ⟨rfl, rfl⟩ := H
                obtain ⟨Ao15, co15, eo15⟩ := Kd.R_slice HO_6.out
                subst eo15
                go_wp2_with (first | (go_at_call 89; (with_reducible refine (affluxref26_File.calls k2 a0 x9_2 t157 _ A14.out).mono ?_); rintro e w16 ⟨rfl, hb⟩; have n0_ := Aside0.mk (Kd.R_below (by (with_reducible repeat (first | apply Kd.R_alloc | apply Kd.R_drewN | apply Kd.R_drew)); exact HO_6.out) hb); have n1_ := Aside0.mk (below_step (by repeat (first | (with_reducible first | exact HB.out | apply below_alloc | apply pw_below_drewN | apply below_drew1) | exact HB.out)) hb); clear HO_6; clear HB; have HO_6 := n0_; have HB := n1_; clear n0_ n1_; (try clear hb); (try clear hb2); (try clear hk); (try clear hi)))
                go_ret2
                exact ⟨by first | rfl | (simp [errW_none, errW_some] <;> rfl) | (simp [*, errW_none, errW_some] <;> rfl), by repeat (first | (with_reducible first | exact HB.out | apply below_alloc | apply pw_below_drewN | apply below_drew1) | exact HB.out)⟩
              · rw [if_neg c13] at H
                have c13b0 : decide ((x9_2.size : Int) ≤ 960000) = false := decide_eq_false c13
                have c13b1 : decide (x9_2.size ≤ 960000) = false := decide_eq_false (by omega)
                clear c13
                simp only [Option.some.injEq, Prod.mk.injEq] at H
                obtain ⟨rfl, rfl⟩ := H
                obtain ⟨Ao17, co17, eo17⟩ := Kd.R_slice HO_6.out
                subst eo17
                go_wp2
                go_ret2
                exact ⟨by first | rfl | (simp [errW_none, errW_some] <;> rfl) | (simp [*, errW_none, errW_some] <;> rfl), by repeat (first | (with_reducible first | exact HB.out | apply below_alloc | apply pw_below_drewN | apply below_drew1) | exact HB.out)⟩

/-- A state of type 126 at block g of W; what its slices lead to came in by w0. -/
def IsS126 (w0 W : World) (g : Nat) (f0 : ByteArray) (f1 : Bool) : Prop := W.heap[g]? = some (.cells #[.string f0, .bool f1] 126 (0, 0)) ∧ w0.heap.size ≤ g
theorem IsS126.grown {w0 W : World} {g : Nat} {f0 : ByteArray} {f1 : Bool} {W1 : World} {row : Option Nat} (h : IsS126 w0 W g f0 f1) (hw : W.grownBy W1 row) (hne : some g ≠ row) : IsS126 w0 W1 g f0 f1 := by
  obtain ⟨hb, hg⟩ := h
  exact ⟨blk_grown hb hw hne, hg⟩
theorem IsS126.fresh {w0 W : World} {g : Nat} {f0 : ByteArray} {f1 : Bool} (h : IsS126 w0 W g f0 f1) : ∀ k, W.heap.size ≤ k → k ≠ g := by
  obtain ⟨hb, hg⟩ := h
  exact Kd.freshB hb
theorem IsS126.kept {w0 W : World} {g : Nat} {f0 : ByteArray} {f1 : Bool} {W1 : World} {S : Nat → Prop} (h : IsS126 w0 W g f0 f1) (hk : Kept W W1 S) (hne : ¬ S g) : IsS126 w0 W1 g f0 f1 := by
  obtain ⟨hb, hg⟩ := h
  exact ⟨blk_kept hb hk hne, hg⟩
theorem IsS126.below {w0 W : World} {g : Nat} {f0 : ByteArray} {f1 : Bool} {W1 : World} (h : IsS126 w0 W g f0 f1) (hw : Below W.heap.size W W1) : IsS126 w0 W1 g f0 f1 := h.grown (grown_of_below hw none) (by simp)
theorem IsS126.alloc {w0 W : World} {g : Nat} {f0 : ByteArray} {f1 : Bool} (h : IsS126 w0 W g f0 f1) (o : Obj) : IsS126 w0 (W.alloc o) g f0 f1 := h.below (below_alloc (Below.refl _ _) o)
theorem IsS126.drewN {w0 W : World} {g : Nat} {f0 : ByteArray} {f1 : Bool} (h : IsS126 w0 W g f0 f1) (m : Nat) : IsS126 w0 (W.drewN m) g f0 f1 := h
theorem IsS126.drew {w0 W : World} {g : Nat} {f0 : ByteArray} {f1 : Bool} (h : IsS126 w0 W g f0 f1) : IsS126 w0 W.drew g f0 f1 := h
theorem IsS126.at_ {w0 W : World} {g : Nat} {f0 : ByteArray} {f1 : Bool} {w' : World} {m : Nat} (hq : W.drewN m = w') (h : IsS126 w0 W g f0 f1) : IsS126 w0 w' g f0 f1 := by subst hq; exact IsS126.drewN h m
theorem IsS126.apart {w0 W : World} {g : Nat} {f0 : ByteArray} {f1 : Bool} {α : Type} {d : Kd α} {e : Nat} {base : Nat} {ok : Nat → Prop} {v : Value} {xs : List α} (h : IsS126 w0 W g f0 f1) (ho : d.R e W base ok v xs) (ht : ∀ q, q ∈ e :: d.E → q ≠ 126) : d.R e W base (fun k => ok k ∧ k ≠ g) v xs := by
  obtain ⟨hb, hg⟩ := h
  exact Kd.R_types ho hb ht
theorem IsS126.own_ne {w0 W : World} {g : Nat} {f0 : ByteArray} {f1 : Bool} {α : Type} {d : Kd α} {e : Nat} {base : Nat} {ok : Nat → Prop} {v : Value} {xs : List α} (h : IsS126 w0 W g f0 f1) (ho : d.R e W base ok v xs) (ht : e ≠ 126) : some g ≠ v.ownBlock := by
  obtain ⟨hb, hg⟩ := h
  exact Kd.R_ne ho hb ht
theorem IsS126.lt {w0 W : World} {g : Nat} {f0 : ByteArray} {f1 : Bool} (h : IsS126 w0 W g f0 f1) : g < W.heap.size := by
  obtain ⟨hb, hg⟩ := h
  exact blk_lt hb
theorem IsS126.ge {w0 W : World} {g : Nat} {f0 : ByteArray} {f1 : Bool} (h : IsS126 w0 W g f0 f1) : w0.heap.size ≤ g := by
  obtain ⟨hb, hg⟩ := h
  exact hg
theorem IsS126.far {w0 W : World} {g : Nat} {f0 : ByteArray} {f1 : Bool} {p : Addr} (h : IsS126 w0 W g f0 f1) (hne : g ≠ p.block) (u : Value) : IsS126 w0 (W.setCell p u) g f0 f1 := by
  obtain ⟨hb, hg⟩ := h
  exact ⟨blk_far hb hne u, hg⟩
theorem cellS126_0 {W : World} {g : Nat} {f0 : ByteArray} {f1 : Bool} (h : W.heap[g]? = some (.cells #[.string f0, .bool f1] 126 (0, 0))) : W.cell? ⟨g, 0, none⟩ = some (.string f0) := (blk_cell h 0).trans rfl
theorem IsS126.set_0 {w0 W : World} {g : Nat} {f0 : ByteArray} {f1 : Bool} (h : IsS126 w0 W g f0 f1) (x : ByteArray) : IsS126 w0 (W.setCell ⟨g, 0, none⟩ (.string x)) g x f1 := by
  obtain ⟨hb, hg⟩ := h
  exact ⟨by simpa using blk_set hb 0 (.string x), hg⟩
theorem cellS126_1 {W : World} {g : Nat} {f0 : ByteArray} {f1 : Bool} (h : W.heap[g]? = some (.cells #[.string f0, .bool f1] 126 (0, 0))) : W.cell? ⟨g, 1, none⟩ = some (.bool f1) := (blk_cell h 1).trans rfl
theorem IsS126.set_1 {w0 W : World} {g : Nat} {f0 : ByteArray} {f1 : Bool} (h : IsS126 w0 W g f0 f1) (x : Bool) : IsS126 w0 (W.setCell ⟨g, 1, none⟩ (.bool x)) g f0 x := by
  obtain ⟨hb, hg⟩ := h
  exact ⟨by simpa using blk_set hb 1 (.bool x), hg⟩
theorem IsS126.new (w0 W : World) (f0 : ByteArray) (f1 : Bool) (hB : Below w0.heap.size w0 W) : IsS126 w0 (W.alloc (.cells #[.string f0, .bool f1] 126)) W.heap.size f0 f1 := ⟨by simpa using heap_alloc_new W _, hB.size⟩

/-! ### affluxref04_Part_cut: function 154 -/
def affluxref04_Part_cut.f (s0_0 : ByteArray) (s0_1 : Bool) (a1 : Int) : Option (ByteArray × ByteArray × Bool) := if s0_1 = true then (some ((⟨#[]⟩ : ByteArray), s0_0, true)) else (if a1 > (s0_0.size : Int) then (some ((⟨#[]⟩ : ByteArray), s0_0, true)) else (if 0 ≤ a1 then (if a1 ≤ (s0_0.size : Int) then (some (s0_0.extract 0 (a1 : Int).toNat, s0_0.extract (a1 : Int).toNat s0_0.size, s0_1)) else (none)) else (none)))
set_option maxHeartbeats 8000000 in
set_option maxRecDepth 100000 in
theorem affluxref04_Part_cut.calls (g : Nat) (s0_0 : ByteArray) (s0_1 : Bool) (a1 : Int) (r1 : ByteArray) (r2 : ByteArray) (r3 : Bool) (w0 w : World) (hI : IsS126 w0 w g s0_0 s0_1) (hB : Below w0.heap.size w0 w) (h : affluxref04_Part_cut.f s0_0 s0_1 a1 = some (r1, r2, r3)) :
    Calls Tryz.prog 154 #[.pointer (some ⟨g, 0, none⟩), .int .i64 a1] w fun e w' => e = .returned (.string r1) ∧ IsS126 w0 w' g r2 r3 ∧ Below w0.heap.size w0 w' ∧ KeepBut w w' g none := by
  have HI0 := Aside0.mk hI
  have HK := Aside0.mk (KeepBut.refl w g none)
  have HL := Aside0.mk hB.size
  clear hI
  have HW0 := Aside0.mk hB.size
  have HB := Aside0.mk hB
  clear hB
  have H : (if s0_1 = true then (some ((⟨#[]⟩ : ByteArray), s0_0, true)) else (if a1 > (s0_0.size : Int) then (some ((⟨#[]⟩ : ByteArray), s0_0, true)) else (if 0 ≤ a1 then (if a1 ≤ (s0_0.size : Int) then (some (s0_0.extract 0 (a1 : Int).toNat, s0_0.extract (a1 : Int).toNat s0_0.size, s0_1)) else (none)) else (none)))) = some (r1, r2, r3) := h
  clear h
  by_cases c3 : s0_1 = true
  · subst c3
    have H1 : (some ((⟨#[]⟩ : ByteArray), s0_0, true)) = some (r1, r2, r3) := by rw [if_pos rfl] at H; exact H
    clear H
    have H := H1
    clear H1
    simp only [Option.some.injEq, Prod.mk.injEq] at H
    obtain ⟨rfl, rfl, rfl⟩ := H
    obtain ⟨HGz4, hgz4⟩ := HI0.out
    have hcz4_0 := cellS126_0 HGz4
    have hcz4_1 := cellS126_1 HGz4
    have hfz4_0 := blk_frozen HGz4 0
    have hfz4_1 := blk_frozen HGz4 1
    clear HGz4 hgz4
    go_enter Tryz.func154, Tryz.ntmps154
    go_wp2
    go_ret
    exact ⟨by first | rfl | (simp [errW_none, errW_some] <;> rfl) | (simp [*, errW_none, errW_some] <;> rfl), by repeat (first | (with_reducible first | exact HI0.out | apply IsS126.alloc | apply IsS126.drewN | apply IsS126.drew | apply IsS126.set_0 | apply IsS126.set_1) | exact HI0.out), by repeat (first | (with_reducible first | exact HB.out | apply below_alloc | apply pw_below_drewN | apply below_drew1 | refine below_set ?_ (IsS126.ge HI0.out)) | exact HB.out), by repeat (first | (with_reducible first | exact HK.out | apply KeepBut.set_ | apply keep_drewN | apply keep_drew | apply keep_alloc) | exact HK.out)⟩
  · replace c3 := Bool.eq_false_iff.mpr c3
    subst c3
    have H1 : (if a1 > (s0_0.size : Int) then (some ((⟨#[]⟩ : ByteArray), s0_0, true)) else (if 0 ≤ a1 then (if a1 ≤ (s0_0.size : Int) then (some (s0_0.extract 0 (a1 : Int).toNat, s0_0.extract (a1 : Int).toNat s0_0.size, false)) else (none)) else (none))) = some (r1, r2, r3) := by rw [if_neg (show ¬ (false = true) by decide)] at H; exact H
    clear H
    have H := H1
    clear H1
    by_cases c5 : a1 > (s0_0.size : Int)
    · rw [if_pos c5] at H
      have c5b0 : decide ((s0_0.size : Int) < a1) = true := decide_eq_true c5
      clear c5
      simp only [Option.some.injEq, Prod.mk.injEq] at H
      obtain ⟨rfl, rfl, rfl⟩ := H
      obtain ⟨HGz6, hgz6⟩ := HI0.out
      have hcz6_0 := cellS126_0 HGz6
      have hcz6_1 := cellS126_1 HGz6
      have hfz6_0 := blk_frozen HGz6 0
      have hfz6_1 := blk_frozen HGz6 1
      clear HGz6 hgz6
      go_enter Tryz.func154, Tryz.ntmps154
      go_wp2
      go_ret
      exact ⟨by first | rfl | (simp [errW_none, errW_some] <;> rfl) | (simp [*, errW_none, errW_some] <;> rfl), by repeat (first | (with_reducible first | exact HI0.out | apply IsS126.alloc | apply IsS126.drewN | apply IsS126.drew | apply IsS126.set_0 | apply IsS126.set_1) | exact HI0.out), by repeat (first | (with_reducible first | exact HB.out | apply below_alloc | apply pw_below_drewN | apply below_drew1 | refine below_set ?_ (IsS126.ge HI0.out)) | exact HB.out), by repeat (first | (with_reducible first | exact HK.out | apply KeepBut.set_ | apply keep_drewN | apply keep_drew | apply keep_alloc) | exact HK.out)⟩
    · rw [if_neg c5] at H
      have c5b0 : decide ((s0_0.size : Int) < a1) = false := decide_eq_false c5
      clear c5
      by_cases c7 : 0 ≤ a1
      · rw [if_pos c7] at H
        have c7b0 := eq_true c7
        have c7b1 : decide (0 ≤ a1) = true := decide_eq_true c7
        clear c7
        by_cases c8 : a1 ≤ (s0_0.size : Int)
        · rw [if_pos c8] at H
          have c8b0 := eq_true c8
          have c8b1 : decide (a1 ≤ (s0_0.size : Int)) = true := decide_eq_true c8
          clear c8
          have c9b0 := eq_true (of_decide_eq_true (by first | (with_reducible assumption) | assumption) : 0 ≤ a1)
          have c10b0 := eq_true (of_decide_eq_true (by first | (with_reducible assumption) | assumption) : a1 ≤ (s0_0.size : Int))
          simp only [Option.some.injEq, Prod.mk.injEq] at H
          obtain ⟨rfl, rfl, rfl⟩ := H
          obtain ⟨HGz11, hgz11⟩ := HI0.out
          have hcz11_0 := cellS126_0 HGz11
          have hcz11_1 := cellS126_1 HGz11
          have hfz11_0 := blk_frozen HGz11 0
          have hfz11_1 := blk_frozen HGz11 1
          clear HGz11 hgz11
          go_enter Tryz.func154, Tryz.ntmps154
          go_wp2
          go_ret
          exact ⟨by first | rfl | (simp [errW_none, errW_some] <;> rfl) | (simp [*, errW_none, errW_some] <;> rfl), by repeat (first | (with_reducible first | exact HI0.out | apply IsS126.alloc | apply IsS126.drewN | apply IsS126.drew | apply IsS126.set_0 | apply IsS126.set_1) | exact HI0.out), by repeat (first | (with_reducible first | exact HB.out | apply below_alloc | apply pw_below_drewN | apply below_drew1 | refine below_set ?_ (IsS126.ge HI0.out)) | exact HB.out), by repeat (first | (with_reducible first | exact HK.out | apply KeepBut.set_ | apply keep_drewN | apply keep_drew | apply keep_alloc) | exact HK.out)⟩
        · rw [if_neg c8] at H
          exact absurd H (by simp)
      · rw [if_neg c7] at H
        exact absurd H (by simp)

end Go.Proofs.YtcbbdkennmopdaaGreatDoor.PB
