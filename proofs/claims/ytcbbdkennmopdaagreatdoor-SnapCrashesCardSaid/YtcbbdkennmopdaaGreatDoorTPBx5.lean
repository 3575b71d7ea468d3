-- Written by a program of this repo (wip/pp.py) out of the translation, for this claim.
import Derived.Test.YtcbbdkennmopdaaGreatDoorTPBx0
import Derived.Test.YtcbbdkennmopdaaGreatDoorTPBx3
import Derived.Test.YtcbbdkennmopdaaGreatDoorTPBx4
namespace Go.Proofs.YtcbbdkennmopdaaGreatDoor.PB
open Go.RowKit Go.Proofs.YtcbbdkennmopdaaGreatDoorW.PrintWords Go.Proofs.YtcbbdkennmopdaaGreatDoorW.PrintLast Go.Proofs.YtcbbdkennmopdaaGreatDoorW.PrintMore
attribute [local go_sem] max2_int min2_int max_two min_two max_three min_three max_four min_four   -- for this text's walks alone
set_option linter.unusedVariables false
set_option linter.unusedSimpArgs false

/-! ### affluxref04_Part_number: function 126 -/
mutual
def affluxref04_Part_number.j0 : Nat → ByteArray → Bool → ByteArray → Bool → Option (Int × ByteArray × Bool)
  | 0, _, _, _, _ => none
  | k + 1, x3, x17, x1000, x1001 => if x17 = true then (some (0, x1000, true)) else (if 0 < (x3.size : Int) then ((affluxref04_Part_cut.f x1000 x1001 (wrap64 (bt x3 0))).bind fun bt161 => (affluxref04_Part_number.l0 k x3 bt161.1 0 0 bt161.2.1 bt161.2.2)) else (none))
def affluxref04_Part_number.l0 : Nat → ByteArray → ByteArray → Int → Int → ByteArray → Bool → Option (Int × ByteArray × Bool)
  | 0, _, _, _, _, _, _ => none
  | k + 1, x3, x4, x5, x6, x1000, x1001 => if x6 < (x4.size : Int) then (if 0 ≤ x6 then (affluxref04_Part_number.l0 k x3 x4 (IntKind.u64.wrap ((IntKind.u64.wrap (256 * x5)) + (IntKind.u64.wrap (bt x4 x6)))) (wrap64 (x6 + 1)) x1000 x1001) else (none)) else (if x1001 = true then (affluxref04_Part_number.j2 k x5 false x1000 x1001) else ((affluxref04_Number.f k x5).bind fun t164 => (if x3.size + x4.size ≤ 9223372036854775807 then (affluxref04_Part_number.j2 k x5 (t164.toList != (x3 ++ x4).toList) x1000 x1001) else (none))))
def affluxref04_Part_number.j2 : Nat → Int → Bool → ByteArray → Bool → Option (Int × ByteArray × Bool)
  | 0, _, _, _, _ => none
  | k + 1, x5, x51, x1000, x1001 => if x51 = true then (some (0, x1000, true)) else (if x1001 = true then (some (0, x1000, x1001)) else (some (x5, x1000, x1001)))
end
def affluxref04_Part_number.f (k : Nat) (s0_0 : ByteArray) (s0_1 : Bool) : Option (Int × ByteArray × Bool) := (affluxref04_Part_cut.f s0_0 s0_1 1).bind fun bt158 => (if bt158.2.2 = true then (affluxref04_Part_number.j0 k bt158.1 true bt158.2.1 bt158.2.2) else (if 0 < (bt158.1.size : Int) then (affluxref04_Part_number.j0 k bt158.1 (decide ((bt bt158.1 0) > 8)) bt158.2.1 bt158.2.2) else (none)))
theorem affluxref04_Part_number.mono_l : ∀ k, (∀ y0 y1 y2 y3, LeO (affluxref04_Part_number.j0 k y0 y1 y2 y3) (affluxref04_Part_number.j0 (k + 1) y0 y1 y2 y3)) ∧ (∀ y0 y1 y2 y3 y4 y5, LeO (affluxref04_Part_number.l0 k y0 y1 y2 y3 y4 y5) (affluxref04_Part_number.l0 (k + 1) y0 y1 y2 y3 y4 y5)) ∧ (∀ y0 y1 y2 y3, LeO (affluxref04_Part_number.j2 k y0 y1 y2 y3) (affluxref04_Part_number.j2 (k + 1) y0 y1 y2 y3))
  | 0 => ⟨fun _ _ _ _ r h => by simp [affluxref04_Part_number.j0] at h, fun _ _ _ _ _ _ r h => by simp [affluxref04_Part_number.l0] at h, fun _ _ _ _ r h => by simp [affluxref04_Part_number.j2] at h⟩
  | k + 1 => by
    obtain ⟨ih0, ih1, ih2⟩ := affluxref04_Part_number.mono_l k
    refine ⟨?_, ?_, ?_⟩
    · intro y0 y1 y2 y3
      unfold affluxref04_Part_number.j0
      repeat' first
      | (with_reducible exact ih0 _ _ _ _)
      | (with_reducible exact ih1 _ _ _ _ _ _)
      | (with_reducible exact ih2 _ _ _ _)
      | (with_reducible exact affluxref04_Number.mono _ _)
      | (with_reducible exact LeO.refl _)
      | (with_reducible exact LeO.none _)
      | (with_reducible refine LeO.ite ?_ ?_)
      | (with_reducible refine LeO.bind ?_ (fun _ => ?_))
      | exact ih0 _ _ _ _
      | exact ih1 _ _ _ _ _ _
      | exact ih2 _ _ _ _
      | exact affluxref04_Number.mono _ _
      | exact LeO.none _
      | refine LeO.ite ?_ ?_
      | refine LeO.bind ?_ (fun _ => ?_)
    · intro y0 y1 y2 y3 y4 y5
      unfold affluxref04_Part_number.l0
      repeat' first
      | (with_reducible exact ih0 _ _ _ _)
      | (with_reducible exact ih1 _ _ _ _ _ _)
      | (with_reducible exact ih2 _ _ _ _)
      | (with_reducible exact affluxref04_Number.mono _ _)
      | (with_reducible exact LeO.refl _)
      | (with_reducible exact LeO.none _)
      | (with_reducible refine LeO.ite ?_ ?_)
      | (with_reducible refine LeO.bind ?_ (fun _ => ?_))
      | exact ih0 _ _ _ _
      | exact ih1 _ _ _ _ _ _
      | exact ih2 _ _ _ _
      | exact affluxref04_Number.mono _ _
      | exact LeO.none _
      | refine LeO.ite ?_ ?_
      | refine LeO.bind ?_ (fun _ => ?_)
    · intro y0 y1 y2 y3
      unfold affluxref04_Part_number.j2
      repeat' first
      | (with_reducible exact ih0 _ _ _ _)
      | (with_reducible exact ih1 _ _ _ _ _ _)
      | (with_reducible exact ih2 _ _ _ _)
      | (with_reducible exact affluxref04_Number.mono _ _)
      | (with_reducible exact LeO.refl _)
      | (with_reducible exact LeO.none _)
      | (with_reducible refine LeO.ite ?_ ?_)
      | (with_reducible refine LeO.bind ?_ (fun _ => ?_))
      | exact ih0 _ _ _ _
      | exact ih1 _ _ _ _ _ _
      | exact ih2 _ _ _ _
      | exact affluxref04_Number.mono _ _
      | exact LeO.none _
      | refine LeO.ite ?_ ?_
      | refine LeO.bind ?_ (fun _ => ?_)
theorem affluxref04_Part_number.mono : ∀ a0 a1 k, LeO (affluxref04_Part_number.f k a0 a1) (affluxref04_Part_number.f (k + 1) a0 a1) := by
  intro a0 a1 k
  obtain ⟨ih0, ih1, ih2⟩ := affluxref04_Part_number.mono_l k
  unfold affluxref04_Part_number.f
  repeat' first
      | (with_reducible exact ih0 _ _ _ _)
      | (with_reducible exact ih1 _ _ _ _ _ _)
      | (with_reducible exact ih2 _ _ _ _)
      | (with_reducible exact affluxref04_Number.mono _ _)
      | (with_reducible exact LeO.refl _)
      | (with_reducible exact LeO.none _)
      | (with_reducible refine LeO.ite ?_ ?_)
      | (with_reducible refine LeO.bind ?_ (fun _ => ?_))
      | exact ih0 _ _ _ _
      | exact ih1 _ _ _ _ _ _
      | exact ih2 _ _ _ _
      | exact affluxref04_Number.mono _ _
      | exact LeO.none _
      | refine LeO.ite ?_ ?_
      | refine LeO.bind ?_ (fun _ => ?_)
set_option maxHeartbeats 8000000 in
set_option maxRecDepth 100000 in
theorem affluxref04_Part_number.calls (k : Nat) (g : Nat) (s0_0 : ByteArray) (s0_1 : Bool) (r1 : Int) (r2 : ByteArray) (r3 : Bool) (w0 w : World) (hI : IsS126 w0 w g s0_0 s0_1) (hB : Below w0.heap.size w0 w) (h : affluxref04_Part_number.f k s0_0 s0_1 = some (r1, r2, r3)) :
    Calls Tryz.prog 126 #[.pointer (some ⟨g, 0, none⟩)] w fun e w' => e = .returned (.int .u64 r1) ∧ IsS126 w0 w' g r2 r3 ∧ Below w0.heap.size w0 w' ∧ KeepBut w w' g none := by
  have HI0 := Aside0.mk hI
  have HK := Aside0.mk (KeepBut.refl w g none)
  have HL := Aside0.mk hB.size
  clear hI
  have HW0 := Aside0.mk hB.size
  have HB := Aside0.mk hB
  clear hB
  have H : ((affluxref04_Part_cut.f s0_0 s0_1 1).bind fun bt158 => (if bt158.2.2 = true then (affluxref04_Part_number.j0 k bt158.1 true bt158.2.1 bt158.2.2) else (if 0 < (bt158.1.size : Int) then (affluxref04_Part_number.j0 k bt158.1 (decide ((bt bt158.1 0) > 8)) bt158.2.1 bt158.2.2) else (none)))) = some (r1, r2, r3) := h
  clear h
  replace H := Option.bind_eq_some_iff.mp H
  obtain ⟨⟨t158, t159, t160⟩, A20, H⟩ := H
  replace H : (if t160 = true then (affluxref04_Part_number.j0 k t158 true t159 t160) else (if 0 < (t158.size : Int) then (affluxref04_Part_number.j0 k t158 (decide ((bt t158 0) > 8)) t159 t160) else (none))) = some (r1, r2, r3) := H
  have A2 := Aside0.mk A20
  clear A20
  have HC3 := Aside0.mk H
  clear H
  go_enter Tryz.func126, Tryz.ntmps126
  go_upto_region 2 with (first | ((with_reducible refine gate_callee (f := 154) rfl ?_); refine goesL_ (some 8) rfl rfl Tryz.func154 (by kernel_rfl) rfl #[.pointer (some ⟨g, 0, none⟩), .int .i64 1] rfl (by (try simp only [List.map_toArray, List.map_cons, List.map_nil]); first | done | rfl | (simp only [List.length_drop, List.length_take, Int.toNat_natCast] <;> rfl)) ?_; (with_reducible refine (affluxref04_Part_cut.calls g s0_0 s0_1 1 t158 t159 t160 w0 _ ?side1 ?side2 A2.out).mono ?_); (case side1 => repeat (first | (with_reducible first | exact HI0.out | apply IsS126.alloc | apply IsS126.drewN | apply IsS126.drew | apply IsS126.set_0 | apply IsS126.set_1) | exact HI0.out)); (case side2 => repeat (first | (with_reducible first | exact HB.out | apply below_alloc | apply pw_below_drewN | apply below_drew1 | refine below_set ?_ (IsS126.ge HI0.out)) | exact HB.out)); rintro e w4 ⟨rfl, hi, hb, hk⟩; refine ⟨_, rfl, ?_⟩; have n0_ := Aside0.mk (KeepBut.trans (by repeat (first | (with_reducible first | exact HK.out | apply KeepBut.set_ | apply keep_drewN | apply keep_drew | apply keep_alloc) | exact HK.out)) hk (.inl rfl)); have n1_ := Aside0.mk (hb); have n2_ := Aside0.mk (hi); clear HK; clear HB; clear HI0; have HK := n0_; have HB := n1_; have HI0 := n2_; clear n0_ n1_ n2_; (try clear hb); (try clear hb2); (try clear hk); (try clear hi)))
  (try simp only [Act.put, List.setIfInBounds_toArray, List.set_cons_zero, List.set_cons_succ])
  go_cut [17] (fun v17 wc => ∃ (kq : Nat) (x17_2 : Bool), v17 = .bool x17_2 ∧ Aside0 (affluxref04_Part_number.j0 kq t158 x17_2 t159 t160 = some (r1, r2, r3)) ∧ Aside0 (kq ≤ k) ∧ Aside0 (IsS126 w0 wc g t159 t160) ∧ Aside0 (KeepBut w wc g none) ∧ Aside0 (Below w0.heap.size w0 wc))
  case first =>
    have H := HC3.out
    clear HC3
    by_cases c5 : t160 = true
    · subst c5
      have H1 : (affluxref04_Part_number.j0 k t158 true t159 true) = some (r1, r2, r3) := by rw [if_pos rfl] at H; exact H
      clear H
      have H := H1
      clear H1
      have H' := Aside0.mk H
      clear H
      obtain ⟨HGz6, hgz6⟩ := HI0.out
      have hcz6_0 := cellS126_0 HGz6
      have hcz6_1 := cellS126_1 HGz6
      have hfz6_0 := blk_frozen HGz6 0
      have hfz6_1 := blk_frozen HGz6 1
      clear HGz6 hgz6
      go_wp2
      go_meet
      case rel => exact ⟨_, (true), (by first | rfl | (simp; done) | (simp [*]; done)), H', ⟨by first | omega | exact Nat.le_refl _⟩, ⟨by repeat (first | (with_reducible first | exact HI0.out | apply IsS126.alloc | apply IsS126.drewN | apply IsS126.drew | apply IsS126.set_0 | apply IsS126.set_1) | exact HI0.out)⟩, ⟨by repeat (first | (with_reducible first | exact HK.out | apply KeepBut.set_ | apply keep_drewN | apply keep_drew | apply keep_alloc) | exact HK.out)⟩, ⟨by repeat (first | (with_reducible first | exact HB.out | apply below_alloc | apply pw_below_drewN | apply below_drew1 | refine below_set ?_ (IsS126.ge HI0.out)) | exact HB.out)⟩⟩
    · replace c5 := Bool.eq_false_iff.mpr c5
      subst c5
      have H1 : (if 0 < (t158.size : Int) then (affluxref04_Part_number.j0 k t158 (decide ((bt t158 0) > 8)) t159 false) else (none)) = some (r1, r2, r3) := by rw [if_neg (show ¬ (false = true) by decide)] at H; exact H
      clear H
      have H := H1
      clear H1
      by_cases c7 : 0 < (t158.size : Int)
      · rw [if_pos c7] at H
        have c7b0 : decide (0 < (t158.size : Int)) = true := decide_eq_true c7
        have c7b1 : decide (0 < t158.size) = true := decide_eq_true (by omega)
        clear c7
        (first | rw [c7b0] | (simp only [i64_w, i32_w]; rw [c7b0]) | skip)
        have H' := Aside0.mk H
        clear H
        obtain ⟨HGz9, hgz9⟩ := HI0.out
        have hcz9_0 := cellS126_0 HGz9
        have hcz9_1 := cellS126_1 HGz9
        have hfz9_0 := blk_frozen HGz9 0
        have hfz9_1 := blk_frozen HGz9 1
        clear HGz9 hgz9
        have p8 : 0 ≤ (0 : Int) := (by omega)
        have q8 : 0 < t158.size := (by have : (0 : Int) < (t158.size : Int) := of_decide_eq_true (by first | (with_reducible assumption) | assumption); omega)
        have hx8 : ∀ h : 0 < t158.size, ((t158[0]'h).toNat : Int) = bt t158 0 := bt_at t158 0
        clear p8
        have qi8 : (0 < (t158.size : Int)) = True := eq_true (of_decide_eq_true (by first | (with_reducible assumption) | assumption))
        replace q8 := eq_true q8
        go_wp2
        go_meet
        case rel => exact ⟨_, (decide ((bt t158 0) > 8)), (by first | rfl | (simp; done) | (simp [*]; done)), H', ⟨by first | omega | exact Nat.le_refl _⟩, ⟨by repeat (first | (with_reducible first | exact HI0.out | apply IsS126.alloc | apply IsS126.drewN | apply IsS126.drew | apply IsS126.set_0 | apply IsS126.set_1) | exact HI0.out)⟩, ⟨by repeat (first | (with_reducible first | exact HK.out | apply KeepBut.set_ | apply keep_drewN | apply keep_drew | apply keep_alloc) | exact HK.out)⟩, ⟨by repeat (first | (with_reducible first | exact HB.out | apply below_alloc | apply pw_below_drewN | apply below_drew1 | refine below_set ?_ (IsS126.ge HI0.out)) | exact HB.out)⟩⟩
      · rw [if_neg c7] at H
        exact absurd H (by simp)
  case rest =>
    clear HC3
    try clear c1
    try clear p2
    try clear c5
    try clear c7
    try clear c7b0
    try clear c7b1
    try clear p8
    try clear q8
    try clear hx8
    try clear qi8
    try clear hcz6_0
    try clear hcz6_1
    try clear hcz9_0
    try clear hcz9_1
    try clear hfz6_0
    try clear hfz6_1
    try clear hfz9_0
    try clear hfz9_1
    try clear p8
    try clear q8
    obtain ⟨kq, x17_2, rfl, HA, HJ2, HI0, HK, HB⟩ := hcut
    cases kq with
    | zero => exact absurd HA.out (by simp [affluxref04_Part_number.j0])
    | succ kj2 =>
      have H := HA.out
      clear HA
      simp only [affluxref04_Part_number.j0] at H
      by_cases c10 : x17_2 = true
      · subst c10
        have H1 : (some (0, t159, true)) = some (r1, r2, r3) := by rw [if_pos rfl] at H; exact H
        clear H
        have H := H1
        clear H1
        simp only [Option.some.injEq, Prod.mk.injEq] at H
        obtain ⟨rfl, rfl, rfl⟩ := H
        obtain ⟨HGz11, hgz11⟩ := HI0.out
        have hcz11_0 := cellS126_0 HGz11
        have hcz11_1 := cellS126_1 HGz11
        have hfz11_0 := blk_frozen HGz11 0
        have hfz11_1 := blk_frozen HGz11 1
        clear HGz11 hgz11
        go_wp2
        go_ret
        exact ⟨by first | rfl | (simp [errW_none, errW_some] <;> rfl) | (simp [*, errW_none, errW_some] <;> rfl), by repeat (first | (with_reducible first | exact HI0.out | apply IsS126.alloc | apply IsS126.drewN | apply IsS126.drew | apply IsS126.set_0 | apply IsS126.set_1) | exact HI0.out), by repeat (first | (with_reducible first | exact HB.out | apply below_alloc | apply pw_below_drewN | apply below_drew1 | refine below_set ?_ (IsS126.ge HI0.out)) | exact HB.out), by repeat (first | (with_reducible first | exact HK.out | apply KeepBut.set_ | apply keep_drewN | apply keep_drew | apply keep_alloc) | exact HK.out)⟩
      · replace c10 := Bool.eq_false_iff.mpr c10
        subst c10
        have H1 : (if 0 < (t158.size : Int) then ((affluxref04_Part_cut.f t159 t160 (wrap64 (bt t158 0))).bind fun bt161 => (affluxref04_Part_number.l0 kj2 t158 bt161.1 0 0 bt161.2.1 bt161.2.2)) else (none)) = some (r1, r2, r3) := by rw [if_neg (show ¬ (false = true) by decide)] at H; exact H
        clear H
        have H := H1
        clear H1
        by_cases c12 : 0 < (t158.size : Int)
        · rw [if_pos c12] at H
          have c12b0 : decide (0 < (t158.size : Int)) = true := decide_eq_true c12
          have c12b1 : decide (0 < t158.size) = true := decide_eq_true (by omega)
          clear c12
          replace H := Option.bind_eq_some_iff.mp H
          obtain ⟨⟨t161, t162, t163⟩, A140, H⟩ := H
          replace H : (affluxref04_Part_number.l0 kj2 t158 t161 0 0 t162 t163) = some (r1, r2, r3) := H
          have A14 := Aside0.mk A140
          clear A140
          have H' := Aside0.mk H
          clear H
          have p13 : 0 ≤ (0 : Int) := (by omega)
          have q13 : 0 < t158.size := (by have : (0 : Int) < (t158.size : Int) := of_decide_eq_true (by first | (with_reducible assumption) | assumption); omega)
          have hx13 : ∀ h : 0 < t158.size, ((t158[0]'h).toNat : Int) = bt t158 0 := bt_at t158 0
          clear p13
          have qi13 : (0 < (t158.size : Int)) = True := eq_true (of_decide_eq_true (by first | (with_reducible assumption) | assumption))
          replace q13 := eq_true q13
          go_wp2_with (first | ((with_reducible refine gate_callee (f := 154) rfl ?_); refine goesL_ (some 25) rfl rfl Tryz.func154 (by kernel_rfl) rfl #[.pointer (some ⟨g, 0, none⟩), .int .i64 (wrap64 (bt t158 0))] rfl (by (try simp only [List.map_toArray, List.map_cons, List.map_nil]); first | done | rfl | (simp only [List.length_drop, List.length_take, Int.toNat_natCast] <;> rfl)) ?_; (with_reducible refine (affluxref04_Part_cut.calls g t159 t160 (wrap64 (bt t158 0)) t161 t162 t163 w0 _ ?side1 ?side2 A14.out).mono ?_); (case side1 => repeat (first | (with_reducible first | exact HI0.out | apply IsS126.alloc | apply IsS126.drewN | apply IsS126.drew | apply IsS126.set_0 | apply IsS126.set_1) | exact HI0.out)); (case side2 => repeat (first | (with_reducible first | exact HB.out | apply below_alloc | apply pw_below_drewN | apply below_drew1 | refine below_set ?_ (IsS126.ge HI0.out)) | exact HB.out)); rintro e w15 ⟨rfl, hi, hb, hk⟩; refine ⟨_, rfl, ?_⟩; have n0_ := Aside0.mk (KeepBut.trans (by repeat (first | (with_reducible first | exact HK.out | apply KeepBut.set_ | apply keep_drewN | apply keep_drew | apply keep_alloc) | exact HK.out)) hk (.inl rfl)); have n1_ := Aside0.mk (hb); have n2_ := Aside0.mk (hi); clear HK; clear HB; clear HI0; have HK := n0_; have HB := n1_; have HI0 := n2_; clear n0_ n1_ n2_; (try clear hb); (try clear hb2); (try clear hk); (try clear hi)))
          go_loopg [5, 6] kj2 (fun kq v5 v6 w' => ∃ (x5_2 : Int) (x6_2 : Int), v5 = .int .u64 x5_2 ∧ v6 = .int .i64 x6_2 ∧ Aside0 (affluxref04_Part_number.l0 kq t158 t161 x5_2 x6_2 t162 t163 = some (r1, r2, r3)) ∧ Aside0 (kq ≤ kj2) ∧ Aside0 (IsS126 w0 w' g t162 t163) ∧ Aside0 (KeepBut w w' g none) ∧ Aside0 (Below w0.heap.size w0 w'))
          case atStart => exact ⟨(0), (0), (by first | rfl | (simp; done) | (simp [*]; done)), (by first | rfl | (simp; done) | (simp [*]; done)), H', ⟨Nat.le_refl _⟩, ⟨by repeat (first | (with_reducible first | exact HI0.out | apply IsS126.alloc | apply IsS126.drewN | apply IsS126.drew | apply IsS126.set_0 | apply IsS126.set_1) | exact HI0.out)⟩, ⟨by repeat (first | (with_reducible first | exact HK.out | apply KeepBut.set_ | apply keep_drewN | apply keep_drew | apply keep_alloc) | exact HK.out)⟩, ⟨by repeat (first | (with_reducible first | exact HB.out | apply below_alloc | apply pw_below_drewN | apply below_drew1 | refine below_set ?_ (IsS126.ge HI0.out)) | exact HB.out)⟩⟩
          case round =>
            clear H'
            try clear c1
            try clear p1
            try clear q1
            try clear hx1
            try clear qi1
            try clear p2
            try clear c5
            try clear p6
            try clear c7
            try clear c7b0
            try clear c7b1
            try clear p8
            try clear q8
            try clear hx8
            try clear qi8
            try clear c10
            try clear c12
            try clear c12b0
            try clear c12b1
            try clear p13
            try clear q13
            try clear hx13
            try clear qi13
            try clear c15
            try clear hcz11_0
            try clear hcz11_1
            try clear hcz6_0
            try clear hcz6_1
            try clear hcz9_0
            try clear hcz9_1
            try clear hfz11_0
            try clear hfz11_1
            try clear hfz6_0
            try clear hfz6_1
            try clear hfz9_0
            try clear hfz9_1
            try clear p13
            try clear p2
            try clear p8
            try clear q13
            try clear q8
            obtain ⟨x5_2, x6_2, rfl, rfl, HA, HK2, HI0, HK, HB⟩ := hrel
            cases gk with
            | zero => exact absurd HA.out (by simp [affluxref04_Part_number.l0])
            | succ k2 =>
              have H := HA.out
              clear HA
              simp only [affluxref04_Part_number.l0] at H
              by_cases c16 : x6_2 < (t161.size : Int)
              · rw [if_pos c16] at H
                have c16b0 : decide (x6_2 < (t161.size : Int)) = true := decide_eq_true c16
                clear c16
                by_cases c17 : 0 ≤ x6_2
                · rw [if_pos c17] at H
                  have c17b0 : decide (0 ≤ x6_2) = true := decide_eq_true c17
                  clear c17
                  have H' := Aside0.mk H
                  clear H
                  have p18 : 0 ≤ (x6_2 : Int) := of_decide_eq_true (by first | (with_reducible assumption) | assumption)
                  have q18 : x6_2 < (t161.size : Int) := of_decide_eq_true (by first | (with_reducible assumption) | assumption)
                  have hx18 := bt_at t161 x6_2
                  replace p18 := eq_true p18
                  replace q18 := eq_true q18
                  go_wp2
                  go_roundg k2
                  case measure => have := HJ2.out; have := HK2.out; omega
                  case rel => exact ⟨(IntKind.u64.wrap ((IntKind.u64.wrap (256 * x5_2)) + (IntKind.u64.wrap (bt t161 x6_2)))), (wrap64 (x6_2 + 1)), (by first | rfl | (simp; done) | (simp [*]; done)), (by first | rfl | (simp; done) | (simp [*]; done)), H', ⟨by have := HJ2.out; have := HK2.out; omega⟩, ⟨by repeat (first | (with_reducible first | exact HI0.out | apply IsS126.alloc | apply IsS126.drewN | apply IsS126.drew | apply IsS126.set_0 | apply IsS126.set_1) | exact HI0.out)⟩, ⟨by repeat (first | (with_reducible first | exact HK.out | apply KeepBut.set_ | apply keep_drewN | apply keep_drew | apply keep_alloc) | exact HK.out)⟩, ⟨by repeat (first | (with_reducible first | exact HB.out | apply below_alloc | apply pw_below_drewN | apply below_drew1 | refine below_set ?_ (IsS126.ge HI0.out)) | exact HB.out)⟩⟩
                · rw [if_neg c17] at H
                  exact absurd H (by simp)
              · rw [if_neg c16] at H
                have c16b0 : decide (x6_2 < (t161.size : Int)) = false := decide_eq_false c16
                clear c16
                have HC19 := Aside0.mk H
                clear H
                go_upto_region 11 with (fail)
                go_cut [51] (fun v51 wc => ∃ (kq : Nat) (x51_18 : Bool), v51 = .bool x51_18 ∧ Aside0 (affluxref04_Part_number.j2 kq x5_2 x51_18 t162 t163 = some (r1, r2, r3)) ∧ Aside0 (kq ≤ k2) ∧ Aside0 (IsS126 w0 wc g t162 t163) ∧ Aside0 (KeepBut w wc g none) ∧ Aside0 (Below w0.heap.size w0 wc))
                case first =>
                  have H := HC19.out
                  clear HC19
                  by_cases c20 : t163 = true
                  · subst c20
                    have H1 : (affluxref04_Part_number.j2 k2 x5_2 false t162 true) = some (r1, r2, r3) := by rw [if_pos rfl] at H; exact H
                    clear H
                    have H := H1
                    clear H1
                    have H' := Aside0.mk H
                    clear H
                    obtain ⟨HGz21, hgz21⟩ := HI0.out
                    have hcz21_0 := cellS126_0 HGz21
                    have hcz21_1 := cellS126_1 HGz21
                    have hfz21_0 := blk_frozen HGz21 0
                    have hfz21_1 := blk_frozen HGz21 1
                    clear HGz21 hgz21
                    go_wp2
                    go_meet
                    case rel => exact ⟨_, (false), (by first | rfl | (simp; done) | (simp [*]; done)), H', ⟨by have := HJ2.out; have := HK2.out; first | omega | exact Nat.le_refl _⟩, ⟨by repeat (first | (with_reducible first | exact HI0.out | apply IsS126.alloc | apply IsS126.drewN | apply IsS126.drew | apply IsS126.set_0 | apply IsS126.set_1) | exact HI0.out)⟩, ⟨by repeat (first | (with_reducible first | exact HK.out | apply KeepBut.set_ | apply keep_drewN | apply keep_drew | apply keep_alloc) | exact HK.out)⟩, ⟨by repeat (first | (with_reducible first | exact HB.out | apply below_alloc | apply pw_below_drewN | apply below_drew1 | refine below_set ?_ (IsS126.ge HI0.out)) | exact HB.out)⟩⟩
                  · replace c20 := Bool.eq_false_iff.mpr c20
                    subst c20
                    have H1 : ((affluxref04_Number.f k2 x5_2).bind fun t164 => (if t158.size + t161.size ≤ 9223372036854775807 then (affluxref04_Part_number.j2 k2 x5_2 (t164.toList != (t158 ++ t161).toList) t162 false) else (none))) = some (r1, r2, r3) := by rw [if_neg (show ¬ (false = true) by decide)] at H; exact H
                    clear H
                    have H := H1
                    clear H1
                    replace H := Option.bind_eq_some_iff.mp H
                    obtain ⟨t164, A220, H⟩ := H
                    replace H : (if t158.size + t161.size ≤ 9223372036854775807 then (affluxref04_Part_number.j2 k2 x5_2 (t164.toList != (t158 ++ t161).toList) t162 false) else (none)) = some (r1, r2, r3) := H
                    have A22 := Aside0.mk A220
                    clear A220
                    by_cases c23 : t158.size + t161.size ≤ 9223372036854775807
                    · rw [if_pos c23] at H
                      have c23b0 := eq_true c23
                      have c23b1 : decide (t158.size + t161.size ≤ 9223372036854775807) = true := decide_eq_true c23
                      try have c23b2 : (9223372036854775807 < t158.size + t161.size) = False := eq_false (Nat.not_lt.2 c23)
                      have H' := Aside0.mk H
                      clear H
                      obtain ⟨HGz24, hgz24⟩ := HI0.out
                      have hcz24_0 := cellS126_0 HGz24
                      have hcz24_1 := cellS126_1 HGz24
                      have hfz24_0 := blk_frozen HGz24 0
                      have hfz24_1 := blk_frozen HGz24 1
                      clear HGz24 hgz24
                      go_wp2_with (first | (go_at_call 155; (with_reducible refine (affluxref04_Number.calls k2 x5_2 t164 _ A22.out).mono ?_); rintro e w25 ⟨rfl, hb⟩; have n0_ := Aside0.mk (IsS126.below (by repeat (first | (with_reducible first | exact HI0.out | apply IsS126.alloc | apply IsS126.drewN | apply IsS126.drew | apply IsS126.set_0 | apply IsS126.set_1) | exact HI0.out)) hb); have n1_ := Aside0.mk (KeepBut.trans (by repeat (first | (with_reducible first | exact HK.out | apply KeepBut.set_ | apply keep_drewN | apply keep_drew | apply keep_alloc) | exact HK.out)) (KeepBut.of_below hb g none) (.inl rfl)); have n2_ := Aside0.mk (below_step (by repeat (first | (with_reducible first | exact HB.out | apply below_alloc | apply pw_below_drewN | apply below_drew1 | refine below_set ?_ (IsS126.ge HI0.out)) | exact HB.out)) hb); clear HI0; clear HK; clear HB; have HI0 := n0_; have HK := n1_; have HB := n2_; clear n0_ n1_ n2_; (try clear hb); (try clear hb2); (try clear hk); (try clear hi)))
                      go_meet
                      case rel => exact ⟨_, ((t164.toList != (t158 ++ t161).toList)), (by first | rfl | (simp; done) | (simp [*]; done)), H', ⟨by have := HJ2.out; have := HK2.out; first | omega | exact Nat.le_refl _⟩, ⟨by repeat (first | (with_reducible first | exact HI0.out | apply IsS126.alloc | apply IsS126.drewN | apply IsS126.drew | apply IsS126.set_0 | apply IsS126.set_1) | exact HI0.out)⟩, ⟨by repeat (first | (with_reducible first | exact HK.out | apply KeepBut.set_ | apply keep_drewN | apply keep_drew | apply keep_alloc) | exact HK.out)⟩, ⟨by repeat (first | (with_reducible first | exact HB.out | apply below_alloc | apply pw_below_drewN | apply below_drew1 | refine below_set ?_ (IsS126.ge HI0.out)) | exact HB.out)⟩⟩
                    · rw [if_neg c23] at H
                      exact absurd H (by simp)
                case rest =>
                  clear HC19
                  try clear c1
                  try clear p1
                  try clear q1
                  try clear hx1
                  try clear qi1
                  try clear c2
                  try clear p2
                  try clear c5
                  try clear p6
                  try clear c7
                  try clear c7b0
                  try clear c7b1
                  try clear p8
                  try clear q8
                  try clear hx8
                  try clear qi8
                  try clear c10
                  try clear c12
                  try clear c12b0
                  try clear c12b1
                  try clear p13
                  try clear q13
                  try clear hx13
                  try clear qi13
                  try clear c15
                  try clear c16
                  try clear c16b0
                  try clear c17
                  try clear c17b0
                  try clear p18
                  try clear q18
                  try clear hx18
                  try clear c20
                  try clear c23
                  try clear c23b0
                  try clear c23b1
                  try clear c23b2
                  try clear hcz11_0
                  try clear hcz11_1
                  try clear hcz21_0
                  try clear hcz21_1
                  try clear hcz24_0
                  try clear hcz24_1
                  try clear hcz6_0
                  try clear hcz6_1
                  try clear hcz9_0
                  try clear hcz9_1
                  try clear hfz11_0
                  try clear hfz11_1
                  try clear hfz21_0
                  try clear hfz21_1
                  try clear hfz24_0
                  try clear hfz24_1
                  try clear hfz6_0
                  try clear hfz6_1
                  try clear hfz9_0
                  try clear hfz9_1
                  try clear p1
                  try clear p13
                  try clear p18
                  try clear p2
                  try clear p6
                  try clear p8
                  try clear q1
                  try clear q13
                  try clear q18
                  try clear q8
                  obtain ⟨kq, x51_18, rfl, HA, HJ18, HI0, HK, HB⟩ := hcut
                  cases kq with
                  | zero => exact absurd HA.out (by simp [affluxref04_Part_number.j2])
                  | succ kj18 =>
                    have H := HA.out
                    clear HA
                    simp only [affluxref04_Part_number.j2] at H
                    by_cases c26 : x51_18 = true
                    · subst c26
                      have H1 : (some (0, t162, true)) = some (r1, r2, r3) := by rw [if_pos rfl] at H; exact H
                      clear H
                      have H := H1
                      clear H1
                      simp only [Option.some.injEq, Prod.mk.injEq] at H
                      obtain ⟨rfl, rfl, rfl⟩ := H
                      obtain ⟨HGz27, hgz27⟩ := HI0.out
                      have hcz27_0 := cellS126_0 HGz27
                      have hcz27_1 := cellS126_1 HGz27
                      have hfz27_0 := blk_frozen HGz27 0
                      have hfz27_1 := blk_frozen HGz27 1
                      clear HGz27 hgz27
                      go_wp2
                      go_ret
                      exact ⟨by first | rfl | (simp [errW_none, errW_some] <;> rfl) | (simp [*, errW_none, errW_some] <;> rfl), by repeat (first | (with_reducible first | exact HI0.out | apply IsS126.alloc | apply IsS126.drewN | apply IsS126.drew | apply IsS126.set_0 | apply IsS126.set_1) | exact HI0.out), by repeat (first | (with_reducible first | exact HB.out | apply below_alloc | apply pw_below_drewN | apply below_drew1 | refine below_set ?_ (IsS126.ge HI0.out)) | exact HB.out), by repeat (first | (with_reducible first | exact HK.out | apply KeepBut.set_ | apply keep_drewN | apply keep_drew | apply keep_alloc) | exact HK.out)⟩
                    · replace c26 := Bool.eq_false_iff.mpr c26
                      subst c26
                      have H1 : (if t163 = true then (some (0, t162, t163)) else (some (x5_2, t162, t163))) = some (r1, r2, r3) := by rw [if_neg (show ¬ (false = true) by decide)] at H; exact H
                      clear H
                      have H := H1
                      clear H1
                      by_cases c28 : t163 = true
                      · subst c28
                        have H1 : (some (0, t162, true)) = some (r1, r2, r3) := by rw [if_pos rfl] at H; exact H
                        clear H
                        have H := H1
                        clear H1
                        simp only [Option.some.injEq, Prod.mk.injEq] at H
                        obtain ⟨rfl, rfl, rfl⟩ := H
                        obtain ⟨HGz29, hgz29⟩ := HI0.out
                        have hcz29_0 := cellS126_0 HGz29
                        have hcz29_1 := cellS126_1 HGz29
                        have hfz29_0 := blk_frozen HGz29 0
                        have hfz29_1 := blk_frozen HGz29 1
                        clear HGz29 hgz29
                        go_wp2
                        go_ret
                        exact ⟨by first | rfl | (simp [errW_none, errW_some] <;> rfl) | (simp [*, errW_none, errW_some] <;> rfl), by repeat (first | (with_reducible first | exact HI0.out | apply IsS126.alloc | apply IsS126.drewN | apply IsS126.drew | apply IsS126.set_0 | apply IsS126.set_1) | exact HI0.out), by repeat (first | (with_reducible first | exact HB.out | apply below_alloc | apply pw_below_drewN | apply below_drew1 | refine below_set ?_ (IsS126.ge HI0.out)) | exact HB.out), by repeat (first | (with_reducible first | exact HK.out | apply KeepBut.set_ | apply keep_drewN | apply keep_drew | apply keep_alloc) | exact HK.out)⟩
                      · replace c28 := Bool.eq_false_iff.mpr c28
                        subst c28
                        have H1 : (some (x5_2, t162, false)) = some (r1, r2, r3) := by rw [if_neg (show ¬ (false = true) by decide)] at H; exact H
                        clear H
                        have H := H1
                        clear H1
                        simp only [Option.some.injEq, Prod.mk.injEq] at H
                        obtain ⟨rfl, rfl, rfl⟩ := H
                        obtain ⟨HGz30, hgz30⟩ := HI0.out
                        have hcz30_0 := cellS126_0 HGz30
                        have hcz30_1 := cellS126_1 HGz30
                        have hfz30_0 := blk_frozen HGz30 0
                        have hfz30_1 := blk_frozen HGz30 1
                        clear HGz30 hgz30
                        go_wp2
                        go_ret
                        exact ⟨by first | rfl | (simp [errW_none, errW_some] <;> rfl) | (simp [*, errW_none, errW_some] <;> rfl), by repeat (first | (with_reducible first | exact HI0.out | apply IsS126.alloc | apply IsS126.drewN | apply IsS126.drew | apply IsS126.set_0 | apply IsS126.set_1) | exact HI0.out), by repeat (first | (with_reducible first | exact HB.out | apply below_alloc | apply pw_below_drewN | apply below_drew1 | refine below_set ?_ (IsS126.ge HI0.out)) | exact HB.out), by repeat (first | (with_reducible first | exact HK.out | apply KeepBut.set_ | apply keep_drewN | apply keep_drew | apply keep_alloc) | exact HK.out)⟩
        · rw [if_neg c12] at H
          exact absurd H (by simp)

/-! ### affluxref04_Part_Size: function 88 -/
def affluxref04_Part_Size.j0 : Nat → Int → Bool → ByteArray → Bool → Option (Int × ByteArray × Bool)
  | 0, _, _, _, _ => none
  | k + 1, x5, x15, x1000, x1001 => if x15 = true then (some (0, x1000, true)) else (if x1001 = true then (some (0, x1000, x1001)) else (some (wrap64 (x5), x1000, x1001)))
def affluxref04_Part_Size.f (k : Nat) (s0_0 : ByteArray) (s0_1 : Bool) (a1 : Int) : Option (Int × ByteArray × Bool) := (affluxref04_Part_number.f k s0_0 s0_1).bind fun bt165 => (if a1 < 0 then (affluxref04_Part_Size.j0 k bt165.1 true bt165.2.1 bt165.2.2) else (affluxref04_Part_Size.j0 k bt165.1 (decide (bt165.1 > (IntKind.u64.wrap (a1)))) bt165.2.1 bt165.2.2))
theorem affluxref04_Part_Size.mono_l : ∀ k, (∀ y0 y1 y2 y3, LeO (affluxref04_Part_Size.j0 k y0 y1 y2 y3) (affluxref04_Part_Size.j0 (k + 1) y0 y1 y2 y3))
  | 0 => fun _ _ _ _ r h => by simp [affluxref04_Part_Size.j0] at h
  | k + 1 => by
    have ih0 := affluxref04_Part_Size.mono_l k
    · intro y0 y1 y2 y3
      unfold affluxref04_Part_Size.j0
      repeat' first
      | (with_reducible exact ih0 _ _ _ _)
      | (with_reducible exact affluxref04_Part_number.mono _ _ _)
      | (with_reducible exact LeO.refl _)
      | (with_reducible exact LeO.none _)
      | (with_reducible refine LeO.ite ?_ ?_)
      | (with_reducible refine LeO.bind ?_ (fun _ => ?_))
      | exact ih0 _ _ _ _
      | exact affluxref04_Part_number.mono _ _ _
      | exact LeO.none _
      | refine LeO.ite ?_ ?_
      | refine LeO.bind ?_ (fun _ => ?_)
theorem affluxref04_Part_Size.mono : ∀ a0 a1 a2 k, LeO (affluxref04_Part_Size.f k a0 a1 a2) (affluxref04_Part_Size.f (k + 1) a0 a1 a2) := by
  intro a0 a1 a2 k
  have ih0 := affluxref04_Part_Size.mono_l k
  unfold affluxref04_Part_Size.f
  repeat' first
      | (with_reducible exact ih0 _ _ _ _)
      | (with_reducible exact affluxref04_Part_number.mono _ _ _)
      | (with_reducible exact LeO.refl _)
      | (with_reducible exact LeO.none _)
      | (with_reducible refine LeO.ite ?_ ?_)
      | (with_reducible refine LeO.bind ?_ (fun _ => ?_))
      | exact ih0 _ _ _ _
      | exact affluxref04_Part_number.mono _ _ _
      | exact LeO.none _
      | refine LeO.ite ?_ ?_
      | refine LeO.bind ?_ (fun _ => ?_)
set_option maxHeartbeats 8000000 in
set_option maxRecDepth 100000 in
theorem affluxref04_Part_Size.calls (k : Nat) (g : Nat) (s0_0 : ByteArray) (s0_1 : Bool) (a1 : Int) (r1 : Int) (r2 : ByteArray) (r3 : Bool) (w0 w : World) (hI : IsS126 w0 w g s0_0 s0_1) (hB : Below w0.heap.size w0 w) (h : affluxref04_Part_Size.f k s0_0 s0_1 a1 = some (r1, r2, r3)) :
    Calls Tryz.prog 88 #[.pointer (some ⟨g, 0, none⟩), .int .i64 a1] w fun e w' => e = .returned (.int .i64 r1) ∧ IsS126 w0 w' g r2 r3 ∧ Below w0.heap.size w0 w' ∧ KeepBut w w' g none := by
  have HI0 := Aside0.mk hI
  have HK := Aside0.mk (KeepBut.refl w g none)
  have HL := Aside0.mk hB.size
  clear hI
  have HW0 := Aside0.mk hB.size
  have HB := Aside0.mk hB
  clear hB
  have H : ((affluxref04_Part_number.f k s0_0 s0_1).bind fun bt165 => (if a1 < 0 then (affluxref04_Part_Size.j0 k bt165.1 true bt165.2.1 bt165.2.2) else (affluxref04_Part_Size.j0 k bt165.1 (decide (bt165.1 > (IntKind.u64.wrap (a1)))) bt165.2.1 bt165.2.2))) = some (r1, r2, r3) := h
  clear h
  replace H := Option.bind_eq_some_iff.mp H
  obtain ⟨⟨t165, t166, t167⟩, A30, H⟩ := H
  replace H : (if a1 < 0 then (affluxref04_Part_Size.j0 k t165 true t166 t167) else (affluxref04_Part_Size.j0 k t165 (decide (t165 > (IntKind.u64.wrap (a1)))) t166 t167)) = some (r1, r2, r3) := H
  have A3 := Aside0.mk A30
  clear A30
  have HC4 := Aside0.mk H
  clear H
  go_enter Tryz.func88, Tryz.ntmps88
  go_upto_region 2 with (first | ((with_reducible refine gate_callee (f := 126) rfl ?_); refine goesL_ (some 7) rfl rfl Tryz.func126 (by kernel_rfl) rfl #[.pointer (some ⟨g, 0, none⟩)] rfl (by (try simp only [List.map_toArray, List.map_cons, List.map_nil]); first | done | rfl | (simp only [List.length_drop, List.length_take, Int.toNat_natCast] <;> rfl)) ?_; (with_reducible refine (affluxref04_Part_number.calls k g s0_0 s0_1 t165 t166 t167 w0 _ ?side1 ?side2 A3.out).mono ?_); (case side1 => repeat (first | (with_reducible first | exact HI0.out | apply IsS126.alloc | apply IsS126.drewN | apply IsS126.drew | apply IsS126.set_0 | apply IsS126.set_1) | exact HI0.out)); (case side2 => repeat (first | (with_reducible first | exact HB.out | apply below_alloc | apply pw_below_drewN | apply below_drew1 | refine below_set ?_ (IsS126.ge HI0.out)) | exact HB.out)); rintro e w5 ⟨rfl, hi, hb, hk⟩; refine ⟨_, rfl, ?_⟩; have n0_ := Aside0.mk (KeepBut.trans (by repeat (first | (with_reducible first | exact HK.out | apply KeepBut.set_ | apply keep_drewN | apply keep_drew | apply keep_alloc) | exact HK.out)) hk (.inl rfl)); have n1_ := Aside0.mk (hb); have n2_ := Aside0.mk (hi); clear HK; clear HB; clear HI0; have HK := n0_; have HB := n1_; have HI0 := n2_; clear n0_ n1_ n2_; (try clear hb); (try clear hb2); (try clear hk); (try clear hi)))
  (try simp only [Act.put, List.setIfInBounds_toArray, List.set_cons_zero, List.set_cons_succ])
  go_cut [15] (fun v15 wc => ∃ (kq : Nat) (x15_3 : Bool), v15 = .bool x15_3 ∧ Aside0 (affluxref04_Part_Size.j0 kq t165 x15_3 t166 t167 = some (r1, r2, r3)) ∧ Aside0 (kq ≤ k) ∧ Aside0 (IsS126 w0 wc g t166 t167) ∧ Aside0 (KeepBut w wc g none) ∧ Aside0 (Below w0.heap.size w0 wc))
  case first =>
    have H := HC4.out
    clear HC4
    by_cases c6 : a1 < 0
    · rw [if_pos c6] at H
      have c6b0 : decide (a1 < 0) = true := decide_eq_true c6
      clear c6
      (first | rw [c6b0] | (simp only [i64_w, i32_w]; rw [c6b0]) | skip)
      have H' := Aside0.mk H
      clear H
      go_wp2
      go_meet
      case rel => exact ⟨_, (true), (by first | rfl | (simp; done) | (simp [*]; done)), H', ⟨by first | omega | exact Nat.le_refl _⟩, ⟨by repeat (first | (with_reducible first | exact HI0.out | apply IsS126.alloc | apply IsS126.drewN | apply IsS126.drew | apply IsS126.set_0 | apply IsS126.set_1) | exact HI0.out)⟩, ⟨by repeat (first | (with_reducible first | exact HK.out | apply KeepBut.set_ | apply keep_drewN | apply keep_drew | apply keep_alloc) | exact HK.out)⟩, ⟨by repeat (first | (with_reducible first | exact HB.out | apply below_alloc | apply pw_below_drewN | apply below_drew1 | refine below_set ?_ (IsS126.ge HI0.out)) | exact HB.out)⟩⟩
    · rw [if_neg c6] at H
      have c6b0 : decide (a1 < 0) = false := decide_eq_false c6
      clear c6
      (first | rw [c6b0] | (simp only [i64_w, i32_w]; rw [c6b0]) | skip)
      have H' := Aside0.mk H
      clear H
      go_wp2
      go_meet
      case rel => exact ⟨_, (decide (t165 > (IntKind.u64.wrap (a1)))), (by first | rfl | (simp; done) | (simp [*]; done)), H', ⟨by first | omega | exact Nat.le_refl _⟩, ⟨by repeat (first | (with_reducible first | exact HI0.out | apply IsS126.alloc | apply IsS126.drewN | apply IsS126.drew | apply IsS126.set_0 | apply IsS126.set_1) | exact HI0.out)⟩, ⟨by repeat (first | (with_reducible first | exact HK.out | apply KeepBut.set_ | apply keep_drewN | apply keep_drew | apply keep_alloc) | exact HK.out)⟩, ⟨by repeat (first | (with_reducible first | exact HB.out | apply below_alloc | apply pw_below_drewN | apply below_drew1 | refine below_set ?_ (IsS126.ge HI0.out)) | exact HB.out)⟩⟩
  case rest =>
    clear HC4
    try clear c1
    try clear p2
    try clear c6
    try clear c6b0
    obtain ⟨kq, x15_3, rfl, HA, HJ3, HI0, HK, HB⟩ := hcut
    cases kq with
    | zero => exact absurd HA.out (by simp [affluxref04_Part_Size.j0])
    | succ kj3 =>
      have H := HA.out
      clear HA
      simp only [affluxref04_Part_Size.j0] at H
      by_cases c7 : x15_3 = true
      · subst c7
        have H1 : (some (0, t166, true)) = some (r1, r2, r3) := by rw [if_pos rfl] at H; exact H
        clear H
        have H := H1
        clear H1
        simp only [Option.some.injEq, Prod.mk.injEq] at H
        obtain ⟨rfl, rfl, rfl⟩ := H
        obtain ⟨HGz8, hgz8⟩ := HI0.out
        have hcz8_0 := cellS126_0 HGz8
        have hcz8_1 := cellS126_1 HGz8
        have hfz8_0 := blk_frozen HGz8 0
        have hfz8_1 := blk_frozen HGz8 1
        clear HGz8 hgz8
        go_wp2
        go_ret
        exact ⟨by first | rfl | (simp [errW_none, errW_some] <;> rfl) | (simp [*, errW_none, errW_some] <;> rfl), by repeat (first | (with_reducible first | exact HI0.out | apply IsS126.alloc | apply IsS126.drewN | apply IsS126.drew | apply IsS126.set_0 | apply IsS126.set_1) | exact HI0.out), by repeat (first | (with_reducible first | exact HB.out | apply below_alloc | apply pw_below_drewN | apply below_drew1 | refine below_set ?_ (IsS126.ge HI0.out)) | exact HB.out), by repeat (first | (with_reducible first | exact HK.out | apply KeepBut.set_ | apply keep_drewN | apply keep_drew | apply keep_alloc) | exact HK.out)⟩
      · replace c7 := Bool.eq_false_iff.mpr c7
        subst c7
        have H1 : (if t167 = true then (some (0, t166, t167)) else (some (wrap64 (t165), t166, t167))) = some (r1, r2, r3) := by rw [if_neg (show ¬ (false = true) by decide)] at H; exact H
        clear H
        have H := H1
        clear H1
        by_cases c9 : t167 = true
        · subst c9
          have H1 : (some (0, t166, true)) = some (r1, r2, r3) := by rw [if_pos rfl] at H; exact H
          clear H
          have H := H1
          clear H1
          simp only [Option.some.injEq, Prod.mk.injEq] at H
          obtain ⟨rfl, rfl, rfl⟩ := H
          obtain ⟨HGz10, hgz10⟩ := HI0.out
          have hcz10_0 := cellS126_0 HGz10
          have hcz10_1 := cellS126_1 HGz10
          have hfz10_0 := blk_frozen HGz10 0
          have hfz10_1 := blk_frozen HGz10 1
          clear HGz10 hgz10
          go_wp2
          go_ret
          exact ⟨by first | rfl | (simp [errW_none, errW_some] <;> rfl) | (simp [*, errW_none, errW_some] <;> rfl), by repeat (first | (with_reducible first | exact HI0.out | apply IsS126.alloc | apply IsS126.drewN | apply IsS126.drew | apply IsS126.set_0 | apply IsS126.set_1) | exact HI0.out), by repeat (first | (with_reducible first | exact HB.out | apply below_alloc | apply pw_below_drewN | apply below_drew1 | refine below_set ?_ (IsS126.ge HI0.out)) | exact HB.out), by repeat (first | (with_reducible first | exact HK.out | apply KeepBut.set_ | apply keep_drewN | apply keep_drew | apply keep_alloc) | exact HK.out)⟩
        · replace c9 := Bool.eq_false_iff.mpr c9
          subst c9
          have H1 : (some (wrap64 (t165), t166, false)) = some (r1, r2, r3) := by rw [if_neg (show ¬ (false = true) by decide)] at H; exact H
          clear H
          have H := H1
          clear H1
          simp only [Option.some.injEq, Prod.mk.injEq] at H
          obtain ⟨rfl, rfl, rfl⟩ := H
          obtain ⟨HGz11, hgz11⟩ := HI0.out
          have hcz11_0 := cellS126_0 HGz11
          have hcz11_1 := cellS126_1 HGz11
          have hfz11_0 := blk_frozen HGz11 0
          have hfz11_1 := blk_frozen HGz11 1
          clear HGz11 hgz11
          go_wp2
          go_ret
          exact ⟨by first | rfl | (simp [errW_none, errW_some] <;> rfl) | (simp [*, errW_none, errW_some] <;> rfl), by repeat (first | (with_reducible first | exact HI0.out | apply IsS126.alloc | apply IsS126.drewN | apply IsS126.drew | apply IsS126.set_0 | apply IsS126.set_1) | exact HI0.out), by repeat (first | (with_reducible first | exact HB.out | apply below_alloc | apply pw_below_drewN | apply below_drew1 | refine below_set ?_ (IsS126.ge HI0.out)) | exact HB.out), by repeat (first | (with_reducible first | exact HK.out | apply KeepBut.set_ | apply keep_drewN | apply keep_drew | apply keep_alloc) | exact HK.out)⟩

end Go.Proofs.YtcbbdkennmopdaaGreatDoor.PB
