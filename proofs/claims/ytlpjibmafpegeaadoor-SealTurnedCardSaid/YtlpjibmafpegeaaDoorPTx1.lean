-- Written by a program of this repo (wip/pp.py) out of the translation, for this claim.
import Derived.Test.YtlpjibmafpegeaaDoorPTx0
namespace Go.Proofs.YtlpjibmafpegeaaDoor.PT
open Go.RowKit Go.Proofs.YtlpjibmafpegeaaDoorW.PrintWords Go.Proofs.YtlpjibmafpegeaaDoorW.PrintLast Go.Proofs.YtlpjibmafpegeaaDoorW.PrintMore
attribute [local go_sem] max2_int min2_int max_two min_two max_three min_three max_four min_four   -- for this text's walks alone
set_option linter.unusedVariables false
set_option linter.unusedSimpArgs false

-- NOT PRINTED: function 10 (seal_Sum_Add)

-- NOT PRINTED: function 14 (seal_Sum_Value)

-- of our own: function 12 (afflux/seal.Of)

-- of our own: function 22 (afflux/seal.length)

-- NOT PRINTED: function 32 (abi_NoEscape)

-- NOT PRINTED: function 30 (strings_Builder_copyCheck)

-- NOT PRINTED: function 33 (bytealg_MakeNoZero)

-- NOT PRINTED: function 31 (strings_Builder_grow)

-- NOT PRINTED: function 27 (strings_Builder_Grow)

-- NOT PRINTED: function 28 (strings_Builder_WriteString)

-- NOT PRINTED: function 29 (strings_Builder_String)

-- of our own: function 23 (strings.Join)

-- of our own: function 24 (afflux/seal.ends)

-- of our own: function 11 (afflux/seal.Frame)

-- of our own: function 26 (afflux/seal.told)

-- of our own: function 17 (afflux/seal.Open)

-- of our own: function 9 (afflux/affluxlaw05.awake)

-- of our own: function 16 (afflux/affluxref05.Turned)

/-! ### affluxlaw05_SealTurned: function 5 -/
mutual
def affluxlaw05_SealTurned.j0 : Nat → ByteArray → Int → Int → Bool → Option (Bool)
  | 0, _, _, _, _ => none
  | k + 1, x0, x1, x2, x21 => if x21 = true then ((PA.affluxlaw05_awake.f k).bind fun t101 => (some t101)) else (if (IntKind.u64.wrap (wrap64 (8 * (x0.size : Int)))) = 0 then (none) else ((affluxref05_Turned.f x0 (wrap64 (Int.tmod (IntKind.u64.wrap (x1)) (IntKind.u64.wrap (wrap64 (8 * (x0.size : Int)))))) x2).bind fun t102 => (if t102.toList = x0.toList then (affluxlaw05_SealTurned.j1 k x0 x1 x2 false) else ((seal_Of.f (([t102] : List ByteArray))).bind fun t106 => ((seal_Of.f (([x0] : List ByteArray))).bind fun t110 => (affluxlaw05_SealTurned.j1 k x0 x1 x2 (t106 == t110)))))))
def affluxlaw05_SealTurned.j1 : Nat → ByteArray → Int → Int → Bool → Option (Bool)
  | 0, _, _, _, _ => none
  | k + 1, x0, x1, x2, x45 => if x45 = true then (some false) else ((PA.seal_Frame.f k (([x0] : List ByteArray))).bind fun bt114 => (if bt114.2 = true then (affluxlaw05_SealTurned.j2 k x1 x2 bt114.1 (decide ((bt114.1.size : Int) < 13))) else (affluxlaw05_SealTurned.j2 k x1 x2 bt114.1 true)))
def affluxlaw05_SealTurned.j2 : Nat → Int → Int → ByteArray → Bool → Option (Bool)
  | 0, _, _, _, _ => none
  | k + 1, x1, x2, x8, x58 => if x58 = true then (some false) else (if (IntKind.u64.wrap (wrap64 ((wrap64 (8 * (x8.size : Int))) - 32))) = 0 then (none) else ((affluxref05_Turned.f x8 (wrap64 (32 + (wrap64 (Int.tmod (IntKind.u64.wrap (x1)) (IntKind.u64.wrap (wrap64 ((wrap64 (8 * (x8.size : Int))) - 32))))))) x2).bind fun t116 => ((PA.seal_Open.f k t116).bind fun bt117 => (if ((t116.toList == x8.toList) == (bt117.2.2 == 0)) = true then ((PA.affluxlaw05_awake.f k).bind fun t120 => (some t120)) else (some false)))))
end
def affluxlaw05_SealTurned.f (k : Nat) (a0 : ByteArray) (a1 : Int) (a2 : Int) : Option (Bool) := if (a0.size : Int) = 0 then (affluxlaw05_SealTurned.j0 k a0 a1 a2 true) else (affluxlaw05_SealTurned.j0 k a0 a1 a2 (decide ((a0.size : Int) > 1500)))
theorem affluxlaw05_SealTurned.mono_l : ∀ k, (∀ y0 y1 y2 y3, LeO (affluxlaw05_SealTurned.j0 k y0 y1 y2 y3) (affluxlaw05_SealTurned.j0 (k + 1) y0 y1 y2 y3)) ∧ (∀ y0 y1 y2 y3, LeO (affluxlaw05_SealTurned.j1 k y0 y1 y2 y3) (affluxlaw05_SealTurned.j1 (k + 1) y0 y1 y2 y3)) ∧ (∀ y0 y1 y2 y3, LeO (affluxlaw05_SealTurned.j2 k y0 y1 y2 y3) (affluxlaw05_SealTurned.j2 (k + 1) y0 y1 y2 y3))
  | 0 => ⟨fun _ _ _ _ r h => by simp [affluxlaw05_SealTurned.j0] at h, fun _ _ _ _ r h => by simp [affluxlaw05_SealTurned.j1] at h, fun _ _ _ _ r h => by simp [affluxlaw05_SealTurned.j2] at h⟩
  | k + 1 => by
    obtain ⟨ih0, ih1, ih2⟩ := affluxlaw05_SealTurned.mono_l k
    refine ⟨?_, ?_, ?_⟩
    · intro y0 y1 y2 y3
      unfold affluxlaw05_SealTurned.j0
      repeat' first
      | (with_reducible exact ih0 _ _ _ _)
      | (with_reducible exact ih1 _ _ _ _)
      | (with_reducible exact ih2 _ _ _ _)
      | (with_reducible exact PA.affluxlaw05_awake.mono _)
      | (with_reducible exact PA.seal_Frame.mono _ _)
      | (with_reducible exact PA.seal_Open.mono _ _)
      | (with_reducible exact LeO.refl _)
      | (with_reducible exact LeO.none _)
      | (with_reducible refine LeO.ite ?_ ?_)
      | (with_reducible refine LeO.bind ?_ (fun _ => ?_))
      | exact ih0 _ _ _ _
      | exact ih1 _ _ _ _
      | exact ih2 _ _ _ _
      | exact PA.affluxlaw05_awake.mono _
      | exact PA.seal_Frame.mono _ _
      | exact PA.seal_Open.mono _ _
      | exact LeO.none _
      | refine LeO.ite ?_ ?_
      | refine LeO.bind ?_ (fun _ => ?_)
    · intro y0 y1 y2 y3
      unfold affluxlaw05_SealTurned.j1
      repeat' first
      | (with_reducible exact ih0 _ _ _ _)
      | (with_reducible exact ih1 _ _ _ _)
      | (with_reducible exact ih2 _ _ _ _)
      | (with_reducible exact PA.affluxlaw05_awake.mono _)
      | (with_reducible exact PA.seal_Frame.mono _ _)
      | (with_reducible exact PA.seal_Open.mono _ _)
      | (with_reducible exact LeO.refl _)
      | (with_reducible exact LeO.none _)
      | (with_reducible refine LeO.ite ?_ ?_)
      | (with_reducible refine LeO.bind ?_ (fun _ => ?_))
      | exact ih0 _ _ _ _
      | exact ih1 _ _ _ _
      | exact ih2 _ _ _ _
      | exact PA.affluxlaw05_awake.mono _
      | exact PA.seal_Frame.mono _ _
      | exact PA.seal_Open.mono _ _
      | exact LeO.none _
      | refine LeO.ite ?_ ?_
      | refine LeO.bind ?_ (fun _ => ?_)
    · intro y0 y1 y2 y3
      unfold affluxlaw05_SealTurned.j2
      repeat' first
      | (with_reducible exact ih0 _ _ _ _)
      | (with_reducible exact ih1 _ _ _ _)
      | (with_reducible exact ih2 _ _ _ _)
      | (with_reducible exact PA.affluxlaw05_awake.mono _)
      | (with_reducible exact PA.seal_Frame.mono _ _)
      | (with_reducible exact PA.seal_Open.mono _ _)
      | (with_reducible exact LeO.refl _)
      | (with_reducible exact LeO.none _)
      | (with_reducible refine LeO.ite ?_ ?_)
      | (with_reducible refine LeO.bind ?_ (fun _ => ?_))
      | exact ih0 _ _ _ _
      | exact ih1 _ _ _ _
      | exact ih2 _ _ _ _
      | exact PA.affluxlaw05_awake.mono _
      | exact PA.seal_Frame.mono _ _
      | exact PA.seal_Open.mono _ _
      | exact LeO.none _
      | refine LeO.ite ?_ ?_
      | refine LeO.bind ?_ (fun _ => ?_)
theorem affluxlaw05_SealTurned.mono : ∀ a0 a1 a2 k, LeO (affluxlaw05_SealTurned.f k a0 a1 a2) (affluxlaw05_SealTurned.f (k + 1) a0 a1 a2) := by
  intro a0 a1 a2 k
  obtain ⟨ih0, ih1, ih2⟩ := affluxlaw05_SealTurned.mono_l k
  unfold affluxlaw05_SealTurned.f
  repeat' first
      | (with_reducible exact ih0 _ _ _ _)
      | (with_reducible exact ih1 _ _ _ _)
      | (with_reducible exact ih2 _ _ _ _)
      | (with_reducible exact PA.affluxlaw05_awake.mono _)
      | (with_reducible exact PA.seal_Frame.mono _ _)
      | (with_reducible exact PA.seal_Open.mono _ _)
      | (with_reducible exact LeO.refl _)
      | (with_reducible exact LeO.none _)
      | (with_reducible refine LeO.ite ?_ ?_)
      | (with_reducible refine LeO.bind ?_ (fun _ => ?_))
      | exact ih0 _ _ _ _
      | exact ih1 _ _ _ _
      | exact ih2 _ _ _ _
      | exact PA.affluxlaw05_awake.mono _
      | exact PA.seal_Frame.mono _ _
      | exact PA.seal_Open.mono _ _
      | exact LeO.none _
      | refine LeO.ite ?_ ?_
      | refine LeO.bind ?_ (fun _ => ?_)
set_option maxHeartbeats 8000000 in
set_option maxRecDepth 100000 in
theorem affluxlaw05_SealTurned.calls (k : Nat) (a0 : ByteArray) (a1 : Int) (a2 : Int) (r : Bool) (w : World) (hT : SumW.Tab w) (h : affluxlaw05_SealTurned.f k a0 a1 a2 = some r) :
    Calls Tryd.prog 5 #[.string a0, .int .i64 a1, .int .u64 a2] w fun e w' => e = .returned (.bool r) ∧ Below w.heap.size w w' := by
  have HT := Aside0.mk hT
  clear hT
  have HB := Aside0.mk (Below.refl w.heap.size w)
  have H : (if (a0.size : Int) = 0 then (affluxlaw05_SealTurned.j0 k a0 a1 a2 true) else (affluxlaw05_SealTurned.j0 k a0 a1 a2 (decide ((a0.size : Int) > 1500)))) = some r := h
  clear h
  have HC4 := Aside0.mk H
  clear H
  go_enter Tryd.func5, Tryd.ntmps5
  go_upto_region 1 with (fail)
  go_cut [21] (fun v21 wc => ∃ (kq : Nat) (x21_3 : Bool), v21 = .bool x21_3 ∧ Aside0 (affluxlaw05_SealTurned.j0 kq a0 a1 a2 x21_3 = some r) ∧ Aside0 (kq ≤ k) ∧ Aside0 (Below w.heap.size w wc))
  case first =>
    have H := HC4.out
    clear HC4
    by_cases c5 : (a0.size : Int) = 0
    · rw [if_pos c5] at H
      have c5b0 : ((a0.size : Int) == 0) = true := beq_iff_eq.mpr c5
      have c5b1 : ((a0.size : Int) != 0) = false := bne_eq_false_iff_eq.mpr c5
      clear c5
      (first | rw [c5b0] | (simp only [i64_w, i32_w]; rw [c5b0]) | skip)
      have H' := Aside0.mk H
      clear H
      go_wp2
      go_meet
      case rel => exact ⟨_, (true), (by first | rfl | (simp; done) | (simp [*]; done)), H', ⟨by first | omega | exact Nat.le_refl _⟩, ⟨by repeat (first | (with_reducible first | exact HB.out | apply below_alloc | apply pw_below_drewN | apply below_drew1) | exact HB.out)⟩⟩
    · rw [if_neg c5] at H
      have c5b0 : ((a0.size : Int) == 0) = false := beq_eq_false_iff_ne.mpr c5
      have c5b1 : ((a0.size : Int) != 0) = true := bne_iff_ne.mpr c5
      (first | rw [c5b0] | (simp only [i64_w, i32_w]; rw [c5b0]) | skip)
      have H' := Aside0.mk H
      clear H
      go_wp2
      go_meet
      case rel => exact ⟨_, (decide ((a0.size : Int) > 1500)), (by first | rfl | (simp; done) | (simp [*]; done)), H', ⟨by first | omega | exact Nat.le_refl _⟩, ⟨by repeat (first | (with_reducible first | exact HB.out | apply below_alloc | apply pw_below_drewN | apply below_drew1) | exact HB.out)⟩⟩
  case rest =>
    clear HC4
    try clear p2
    try clear c5
    try clear c5b0
    try clear c5b1
    obtain ⟨kq, x21_3, rfl, HA, HJ3, HB⟩ := hcut
    cases kq with
    | zero => exact absurd HA.out (by simp [affluxlaw05_SealTurned.j0])
    | succ kj3 =>
      have H := HA.out
      clear HA
      simp only [affluxlaw05_SealTurned.j0] at H
      by_cases c6 : x21_3 = true
      · subst c6
        have H1 : ((PA.affluxlaw05_awake.f kj3).bind fun t101 => (some t101)) = some r := by rw [if_pos rfl] at H; exact H
        clear H
        have H := H1
        clear H1
        replace H := Option.bind_eq_some_iff.mp H
        obtain ⟨t101, A70, H⟩ := H
        replace H : (some t101) = some r := H
        have A7 := Aside0.mk A70
        clear A70
        obtain rfl := Option.some.inj H
        go_wp2_with (first | ((with_reducible refine gate_callee (f := 9) rfl ?_); refine goesL_ (some 22) rfl rfl Tryd.func9 (by kernel_rfl) rfl #[] rfl (by (try simp only [List.map_toArray, List.map_cons, List.map_nil]); first | done | rfl | (simp only [List.length_drop, List.length_take, Int.toNat_natCast] <;> rfl)) ?_; (with_reducible refine (PA.affluxlaw05_awake.calls kj3  t101 _ ?side1 A7.out).mono ?_); (case side1 => exact SumW.Tab.below HT.out (by repeat (first | (with_reducible first | exact HB.out | apply below_alloc | apply pw_below_drewN | apply below_drew1) | exact HB.out)) (SumW.Tab.lt HT.out)); rintro e w8 ⟨rfl, hb⟩; refine ⟨_, rfl, ?_⟩; have n0_ := Aside0.mk (below_step (by repeat (first | (with_reducible first | exact HB.out | apply below_alloc | apply pw_below_drewN | apply below_drew1) | exact HB.out)) hb); clear HB; have HB := n0_; clear n0_; (try clear hb); (try clear hb2); (try clear hk); (try clear hi)))
        go_ret
        exact ⟨by first | rfl | (simp [errW_none, errW_some] <;> rfl) | (simp [*, errW_none, errW_some] <;> rfl), by repeat (first | (with_reducible first | exact HB.out | apply below_alloc | apply pw_below_drewN | apply below_drew1) | exact HB.out)⟩
      · replace c6 := Bool.eq_false_iff.mpr c6
        subst c6
        have H1 : (if (IntKind.u64.wrap (wrap64 (8 * (a0.size : Int)))) = 0 then (none) else ((affluxref05_Turned.f a0 (wrap64 (Int.tmod (IntKind.u64.wrap (a1)) (IntKind.u64.wrap (wrap64 (8 * (a0.size : Int)))))) a2).bind fun t102 => (if t102.toList = a0.toList then (affluxlaw05_SealTurned.j1 kj3 a0 a1 a2 false) else ((seal_Of.f (([t102] : List ByteArray))).bind fun t106 => ((seal_Of.f (([a0] : List ByteArray))).bind fun t110 => (affluxlaw05_SealTurned.j1 kj3 a0 a1 a2 (t106 == t110))))))) = some r := by rw [if_neg (show ¬ (false = true) by decide)] at H; exact H
        clear H
        have H := H1
        clear H1
        by_cases c9 : (IntKind.u64.wrap (wrap64 (8 * (a0.size : Int)))) = 0
        · rw [if_pos c9] at H
          exact absurd H (by simp)
        · rw [if_neg c9] at H
          have c9b0 : ((IntKind.u64.wrap (wrap64 (8 * (a0.size : Int)))) == 0) = false := beq_eq_false_iff_ne.mpr c9
          have c9b1 : ((IntKind.u64.wrap (wrap64 (8 * (a0.size : Int)))) != 0) = true := bne_iff_ne.mpr c9
          replace H := Option.bind_eq_some_iff.mp H
          obtain ⟨t102, A100, H⟩ := H
          replace H : (if t102.toList = a0.toList then (affluxlaw05_SealTurned.j1 kj3 a0 a1 a2 false) else ((seal_Of.f (([t102] : List ByteArray))).bind fun t106 => ((seal_Of.f (([a0] : List ByteArray))).bind fun t110 => (affluxlaw05_SealTurned.j1 kj3 a0 a1 a2 (t106 == t110))))) = some r := H
          have A10 := Aside0.mk A100
          clear A100
          have HC11 := Aside0.mk H
          clear H
          go_upto_region 4 with (first | ((with_reducible refine gate_callee (f := 16) rfl ?_); refine goesL_ (some 33) rfl rfl Tryd.func16 (by kernel_rfl) rfl #[.string a0, .int .i64 (wrap64 (Int.tmod (IntKind.u64.wrap (a1)) (IntKind.u64.wrap (wrap64 (8 * (a0.size : Int)))))), .int .u64 a2] rfl (by (try simp only [List.map_toArray, List.map_cons, List.map_nil]); first | done | rfl | (simp only [List.length_drop, List.length_take, Int.toNat_natCast] <;> rfl)) ?_; (with_reducible refine (affluxref05_Turned.calls a0 (wrap64 (Int.tmod (IntKind.u64.wrap (a1)) (IntKind.u64.wrap (wrap64 (8 * (a0.size : Int)))))) a2 t102 _ A10.out).mono ?_); rintro e w12 ⟨rfl, hb⟩; refine ⟨_, rfl, ?_⟩; have n0_ := Aside0.mk (below_step (by repeat (first | (with_reducible first | exact HB.out | apply below_alloc | apply pw_below_drewN | apply below_drew1) | exact HB.out)) hb); clear HB; have HB := n0_; clear n0_; (try clear hb); (try clear hb2); (try clear hk); (try clear hi)))
          (try simp only [Act.put, List.setIfInBounds_toArray, List.set_cons_zero, List.set_cons_succ])
          go_cut [45] (fun v45 wc => ∃ (kq : Nat) (x45_10 : Bool), v45 = .bool x45_10 ∧ Aside0 (affluxlaw05_SealTurned.j1 kq a0 a1 a2 x45_10 = some r) ∧ Aside0 (kq ≤ kj3) ∧ Aside0 (Below w.heap.size w wc))
          case first =>
            have H := HC11.out
            clear HC11
            by_cases c13 : t102.toList = a0.toList
            · rw [if_pos c13] at H
              have c13b0 : (t102.toList == a0.toList) = true := beq_iff_eq.mpr c13
              have c13b1 : (t102.toList != a0.toList) = false := bne_eq_false_iff_eq.mpr c13
              clear c13
              (first | rw [c13b0] | (simp only [i64_w, i32_w]; rw [c13b0]) | skip)
              have H' := Aside0.mk H
              clear H
              go_wp2
              go_meet
              case rel => exact ⟨_, (false), (by first | rfl | (simp; done) | (simp [*]; done)), H', ⟨by have := HJ3.out; first | omega | exact Nat.le_refl _⟩, ⟨by repeat (first | (with_reducible first | exact HB.out | apply below_alloc | apply pw_below_drewN | apply below_drew1) | exact HB.out)⟩⟩
            · rw [if_neg c13] at H
              have c13b0 : (t102.toList == a0.toList) = false := beq_eq_false_iff_ne.mpr c13
              have c13b1 : (t102.toList != a0.toList) = true := bne_iff_ne.mpr c13
              (first | rw [c13b0] | (simp only [i64_w, i32_w]; rw [c13b0]) | skip)
              obtain ⟨y103, hy103⟩ : ∃ y_ : List ByteArray, y_ = (([t102] : List ByteArray)) := ⟨_, rfl⟩
              replace H : ((seal_Of.f y103).bind fun t106 => ((seal_Of.f (([a0] : List ByteArray))).bind fun t110 => (affluxlaw05_SealTurned.j1 kj3 a0 a1 a2 (t106 == t110)))) = some r := by first | (rw [hy103]; with_reducible exact H) | (have H2_ := (Option.bind_some _ _).symm.trans H; rw [hy103]; with_reducible exact H2_) | (have H2_ := (Option.bind_some _ _).symm.trans H; with_reducible exact H2_) | with_reducible exact H | (rw [hy103]; exact H) | exact H
              have Ny103 := Aside0.mk hy103
              clear hy103
              replace H := Option.bind_eq_some_iff.mp H
              obtain ⟨t106, A140, H⟩ := H
              replace H : ((seal_Of.f (([a0] : List ByteArray))).bind fun t110 => (affluxlaw05_SealTurned.j1 kj3 a0 a1 a2 (t106 == t110))) = some r := H
              have A14 := Aside0.mk A140
              clear A140
              obtain ⟨y107, hy107⟩ : ∃ y_ : List ByteArray, y_ = (([a0] : List ByteArray)) := ⟨_, rfl⟩
              replace H : ((seal_Of.f y107).bind fun t110 => (affluxlaw05_SealTurned.j1 kj3 a0 a1 a2 (t106 == t110))) = some r := by first | (rw [hy107]; with_reducible exact H) | (have H2_ := (Option.bind_some _ _).symm.trans H; rw [hy107]; with_reducible exact H2_) | (have H2_ := (Option.bind_some _ _).symm.trans H; with_reducible exact H2_) | with_reducible exact H | (rw [hy107]; exact H) | exact H
              have Ny107 := Aside0.mk hy107
              clear hy107
              replace H := Option.bind_eq_some_iff.mp H
              obtain ⟨t110, A150, H⟩ := H
              replace H : (affluxlaw05_SealTurned.j1 kj3 a0 a1 a2 (t106 == t110)) = some r := H
              have A15 := Aside0.mk A150
              clear A150
              have H' := Aside0.mk H
              clear H
              go_wp2_with (first | ((with_reducible refine gate_dst (N := 39) rfl ?_); (try (refine gate_guard (by rfl) ?_; dsimp only)); refine Kd.R_lit Kd.string _ 9 ?hg (N := 39) ?hd (xs := ([t102] : List ByteArray)) (inner := [.string t102]) (ok := fun _ => True) (okp := fun _ => True) ?hr ?hp (fun _ hk => hk) trivial (Below.refl _ _) (Nat.le_refl _) (by simp) ?_; (case hd => rfl); (case hg => rfl); (case hr => first | (go_simp; done) | (go_simp; rfl)); (case hp => exact (Reps.one (show Kd.M Kd.string _ _ _ t102 [.string t102] from rfl) (Reps.none _ _))); intro v104 w16 ho17 hb hg_ hnew_; clear hg_ hnew_; (first | rw [← Ny103.out] at ho17 | (simp only [Int.reduceToNat] at ho17; rw [← Ny103.out] at ho17)); have n0_ := Aside0.mk (Kd.R_lower ho17 (below_size (by repeat (first | (with_reducible first | exact HB.out | apply below_alloc | apply pw_below_drewN | apply below_drew1) | exact HB.out)))); have n1_ := Aside0.mk (below_step (by repeat (first | (with_reducible first | exact HB.out | apply below_alloc | apply pw_below_drewN | apply below_drew1) | exact HB.out)) hb); clear HB; have HO105 := n0_; have HB := n1_; clear n0_ n1_; clear hb ho17; obtain ⟨Ao18, co18, eo18⟩ := Kd.R_slice HO105.out; subst eo18) | (go_at_call 12; (with_reducible refine (seal_Of.calls _ _ y103 t106 _ ?side1 ?side2 ?side3 A14.out).mono ?_); (case side1 => repeat (first | exact (Kd.R_reads' HO105.out).2.2 | (with_reducible refine Kd.C_alloc ?_ _) | (with_reducible refine Kd.C_drewN ?_ _) | (with_reducible refine Kd.C_drew ?_))); (case side2 => exact (Kd.R_reads' HO105.out).2.1); (case side3 => exact SumW.Tab.below HT.out (by repeat (first | (with_reducible first | exact HB.out | apply below_alloc | apply pw_below_drewN | apply below_drew1) | exact HB.out)) (SumW.Tab.lt HT.out)); rintro e w19 ⟨rfl, hb⟩; have n0_ := Aside0.mk (Kd.R_below (by (with_reducible repeat (first | apply Kd.R_alloc | apply Kd.R_drewN | apply Kd.R_drew)); exact HO105.out) hb); have n1_ := Aside0.mk (below_step (by repeat (first | (with_reducible first | exact HB.out | apply below_alloc | apply pw_below_drewN | apply below_drew1) | exact HB.out)) hb); clear HO105; clear HB; have HO105 := n0_; have HB := n1_; clear n0_ n1_; (try clear hb); (try clear hb2); (try clear hk); (try clear hi)) | ((with_reducible refine gate_dst (N := 42) rfl ?_); (try (refine gate_guard (by rfl) ?_; dsimp only)); refine Kd.R_lit Kd.string _ 9 ?hg (N := 42) ?hd (xs := ([a0] : List ByteArray)) (inner := [.string a0]) (ok := fun _ => True) (okp := fun _ => True) ?hr ?hp (fun _ hk => hk) trivial (Below.refl _ _) (Nat.le_refl _) (by simp) ?_; (case hd => rfl); (case hg => rfl); (case hr => first | (go_simp; done) | (go_simp; rfl)); (case hp => exact (Reps.one (show Kd.M Kd.string _ _ _ a0 [.string a0] from rfl) (Reps.none _ _))); intro v108 w20 ho21 hb hg_ hnew_; clear hg_ hnew_; (first | rw [← Ny107.out] at ho21 | (simp only [Int.reduceToNat] at ho21; rw [← Ny107.out] at ho21)); have n0_ := Aside0.mk (Kd.R_elder' (by (with_reducible repeat (first | apply Kd.R_alloc | apply Kd.R_drewN | apply Kd.R_drew)); exact HO105.out) (Kd.R_base ho21) hb); have n1_ := Aside0.mk (Kd.R_lower (Kd.R_new' ho21 (Kd.R_lt (by (with_reducible repeat (first | apply Kd.R_alloc | apply Kd.R_drewN | apply Kd.R_drew)); exact HO105.out))) (below_size (by repeat (first | (with_reducible first | exact HB.out | apply below_alloc | apply pw_below_drewN | apply below_drew1) | exact HB.out)))); have n2_ := Aside0.mk (below_step (by repeat (first | (with_reducible first | exact HB.out | apply below_alloc | apply pw_below_drewN | apply below_drew1) | exact HB.out)) hb); clear HO105; clear HB; have HO105 := n0_; have HO109 := n1_; have HB := n2_; clear n0_ n1_ n2_; clear hb ho21; obtain ⟨Ao22, co22, eo22⟩ := Kd.R_slice HO109.out; subst eo22) | (go_at_call 12; (with_reducible refine (seal_Of.calls _ _ y107 t110 _ ?side1 ?side2 ?side3 A15.out).mono ?_); (case side1 => repeat (first | exact (Kd.R_reads' HO109.out).2.2 | (with_reducible refine Kd.C_alloc ?_ _) | (with_reducible refine Kd.C_drewN ?_ _) | (with_reducible refine Kd.C_drew ?_))); (case side2 => exact (Kd.R_reads' HO109.out).2.1); (case side3 => exact SumW.Tab.below HT.out (by repeat (first | (with_reducible first | exact HB.out | apply below_alloc | apply pw_below_drewN | apply below_drew1) | exact HB.out)) (SumW.Tab.lt HT.out)); rintro e w23 ⟨rfl, hb⟩; have n0_ := Aside0.mk (Kd.R_below (by (with_reducible repeat (first | apply Kd.R_alloc | apply Kd.R_drewN | apply Kd.R_drew)); exact HO105.out) hb); have n1_ := Aside0.mk (Kd.R_below (by (with_reducible repeat (first | apply Kd.R_alloc | apply Kd.R_drewN | apply Kd.R_drew)); exact HO109.out) hb); have n2_ := Aside0.mk (below_step (by repeat (first | (with_reducible first | exact HB.out | apply below_alloc | apply pw_below_drewN | apply below_drew1) | exact HB.out)) hb); clear HO105; clear HO109; clear HB; have HO105 := n0_; have HO109 := n1_; have HB := n2_; clear n0_ n1_ n2_; (try clear hb); (try clear hb2); (try clear hk); (try clear hi)))
              go_meet
              case rel => exact ⟨_, ((t106 == t110)), (by first | rfl | (simp; done) | (simp [*]; done)), H', ⟨by have := HJ3.out; first | omega | exact Nat.le_refl _⟩, ⟨by repeat (first | (with_reducible first | exact HB.out | apply below_alloc | apply pw_below_drewN | apply below_drew1) | exact HB.out)⟩⟩
          case rest =>
            clear HC11
            try clear c1
            try clear p2
            try clear c5
            try clear c5b0
            try clear c5b1
            try clear c6
            try clear p6
            try clear c9
            try clear c9b0
            try clear c9b1
            try clear c13
            try clear c13b0
            try clear c13b1
            try clear c16
            try clear p2
            obtain ⟨kq, x45_10, rfl, HA, HJ10, HB⟩ := hcut
            cases kq with
            | zero => exact absurd HA.out (by simp [affluxlaw05_SealTurned.j1])
            | succ kj10 =>
              have H := HA.out
              clear HA
              simp only [affluxlaw05_SealTurned.j1] at H
              by_cases c24 : x45_10 = true
              · subst c24
                have H1 : (some false) = some r := by rw [if_pos rfl] at H; exact H
                clear H
                have H := H1
                clear H1
                obtain rfl := Option.some.inj H
                go_wp2
                go_ret
                exact ⟨by first | rfl | (simp [errW_none, errW_some] <;> rfl) | (simp [*, errW_none, errW_some] <;> rfl), by repeat (first | (with_reducible first | exact HB.out | apply below_alloc | apply pw_below_drewN | apply below_drew1) | exact HB.out)⟩
              · replace c24 := Bool.eq_false_iff.mpr c24
                subst c24
                have H1 : ((PA.seal_Frame.f kj10 (([a0] : List ByteArray))).bind fun bt114 => (if bt114.2 = true then (affluxlaw05_SealTurned.j2 kj10 a1 a2 bt114.1 (decide ((bt114.1.size : Int) < 13))) else (affluxlaw05_SealTurned.j2 kj10 a1 a2 bt114.1 true))) = some r := by rw [if_neg (show ¬ (false = true) by decide)] at H; exact H
                clear H
                have H := H1
                clear H1
                obtain ⟨y111, hy111⟩ : ∃ y_ : List ByteArray, y_ = (([a0] : List ByteArray)) := ⟨_, rfl⟩
                replace H : ((PA.seal_Frame.f kj10 y111).bind fun bt114 => (if bt114.2 = true then (affluxlaw05_SealTurned.j2 kj10 a1 a2 bt114.1 (decide ((bt114.1.size : Int) < 13))) else (affluxlaw05_SealTurned.j2 kj10 a1 a2 bt114.1 true))) = some r := by first | (rw [hy111]; with_reducible exact H) | (have H2_ := (Option.bind_some _ _).symm.trans H; rw [hy111]; with_reducible exact H2_) | (have H2_ := (Option.bind_some _ _).symm.trans H; with_reducible exact H2_) | with_reducible exact H | (rw [hy111]; exact H) | exact H
                have Ny111 := Aside0.mk hy111
                clear hy111
                replace H := Option.bind_eq_some_iff.mp H
                obtain ⟨⟨t114, t115⟩, A250, H⟩ := H
                replace H : (if t115 = true then (affluxlaw05_SealTurned.j2 kj10 a1 a2 t114 (decide ((t114.size : Int) < 13))) else (affluxlaw05_SealTurned.j2 kj10 a1 a2 t114 true)) = some r := H
                have A25 := Aside0.mk A250
                clear A250
                have HC26 := Aside0.mk H
                clear H
                go_upto_region 7 with (first | ((with_reducible refine gate_dst (N := 48) rfl ?_); (try (refine gate_guard (by rfl) ?_; dsimp only)); refine Kd.R_lit Kd.string _ 9 ?hg (N := 48) ?hd (xs := ([a0] : List ByteArray)) (inner := [.string a0]) (ok := fun _ => True) (okp := fun _ => True) ?hr ?hp (fun _ hk => hk) trivial (Below.refl _ _) (Nat.le_refl _) (by simp) ?_; (case hd => rfl); (case hg => rfl); (case hr => first | (go_simp; done) | (go_simp; rfl)); (case hp => exact (Reps.one (show Kd.M Kd.string _ _ _ a0 [.string a0] from rfl) (Reps.none _ _))); intro v112 w27 ho28 hb hg_ hnew_; clear hg_ hnew_; (first | rw [← Ny111.out] at ho28 | (simp only [Int.reduceToNat] at ho28; rw [← Ny111.out] at ho28)); have n0_ := Aside0.mk (Kd.R_lower ho28 (below_size (by repeat (first | (with_reducible first | exact HB.out | apply below_alloc | apply pw_below_drewN | apply below_drew1) | exact HB.out)))); have n1_ := Aside0.mk (below_step (by repeat (first | (with_reducible first | exact HB.out | apply below_alloc | apply pw_below_drewN | apply below_drew1) | exact HB.out)) hb); clear HB; have HO113 := n0_; have HB := n1_; clear n0_ n1_; clear hb ho28; obtain ⟨Ao29, co29, eo29⟩ := Kd.R_slice HO113.out; subst eo29) | ((with_reducible refine gate_callee (f := 11) rfl ?_); refine goesL_ (some 49) rfl rfl Tryd.func11 (by kernel_rfl) rfl #[.slice Ao29 y111.length co29] rfl (by (try simp only [List.map_toArray, List.map_cons, List.map_nil]); first | done | rfl | (simp only [List.length_drop, List.length_take, Int.toNat_natCast] <;> rfl)) ?_; (with_reducible refine (PA.seal_Frame.calls kj10 _ _ y111 t114 t115 _ ?side1 ?side2 ?side3 A25.out).mono ?_); (case side1 => repeat (first | exact (Kd.R_reads' HO113.out).2.2 | (with_reducible refine Kd.C_alloc ?_ _) | (with_reducible refine Kd.C_drewN ?_ _) | (with_reducible refine Kd.C_drew ?_))); (case side2 => exact (Kd.R_reads' HO113.out).2.1); (case side3 => exact SumW.Tab.below HT.out (by repeat (first | (with_reducible first | exact HB.out | apply below_alloc | apply pw_below_drewN | apply below_drew1) | exact HB.out)) (SumW.Tab.lt HT.out)); rintro e w30 ⟨rfl, hb⟩; refine ⟨_, rfl, ?_⟩; have n0_ := Aside0.mk (Kd.R_below (by (with_reducible repeat (first | apply Kd.R_alloc | apply Kd.R_drewN | apply Kd.R_drew)); exact HO113.out) hb); have n1_ := Aside0.mk (below_step (by repeat (first | (with_reducible first | exact HB.out | apply below_alloc | apply pw_below_drewN | apply below_drew1) | exact HB.out)) hb); clear HO113; clear HB; have HO113 := n0_; have HB := n1_; clear n0_ n1_; (try clear hb); (try clear hb2); (try clear hk); (try clear hi)))
                (try simp only [Act.put, List.setIfInBounds_toArray, List.set_cons_zero, List.set_cons_succ])
                go_cut [58] (fun v58 wc => ∃ (kq : Nat) (x58_25 : Bool), v58 = .bool x58_25 ∧ Aside0 (affluxlaw05_SealTurned.j2 kq a1 a2 t114 x58_25 = some r) ∧ Aside0 (kq ≤ kj10) ∧ Aside0 (Below w.heap.size w wc))
                case first =>
                  have H := HC26.out
                  clear HC26
                  by_cases c31 : t115 = true
                  · subst c31
                    have H1 : (affluxlaw05_SealTurned.j2 kj10 a1 a2 t114 (decide ((t114.size : Int) < 13))) = some r := by rw [if_pos rfl] at H; exact H
                    clear H
                    have H := H1
                    clear H1
                    have H' := Aside0.mk H
                    clear H
                    go_wp2
                    go_meet
                    case rel => exact ⟨_, (decide ((t114.size : Int) < 13)), (by first | rfl | (simp; done) | (simp [*]; done)), H', ⟨by have := HJ3.out; have := HJ10.out; first | omega | exact Nat.le_refl _⟩, ⟨by repeat (first | (with_reducible first | exact HB.out | apply below_alloc | apply pw_below_drewN | apply below_drew1) | exact HB.out)⟩⟩
                  · replace c31 := Bool.eq_false_iff.mpr c31
                    subst c31
                    have H1 : (affluxlaw05_SealTurned.j2 kj10 a1 a2 t114 true) = some r := by rw [if_neg (show ¬ (false = true) by decide)] at H; exact H
                    clear H
                    have H := H1
                    clear H1
                    have H' := Aside0.mk H
                    clear H
                    go_wp2
                    go_meet
                    case rel => exact ⟨_, (true), (by first | rfl | (simp; done) | (simp [*]; done)), H', ⟨by have := HJ3.out; have := HJ10.out; first | omega | exact Nat.le_refl _⟩, ⟨by repeat (first | (with_reducible first | exact HB.out | apply below_alloc | apply pw_below_drewN | apply below_drew1) | exact HB.out)⟩⟩
                case rest =>
                  clear HC26
                  try clear c1
                  try clear c2
                  try clear p2
                  try clear c3
                  try clear c5
                  try clear c5b0
                  try clear c5b1
                  try clear c6
                  try clear p6
                  try clear c9
                  try clear c9b0
                  try clear c9b1
                  try clear c11
                  try clear c13
                  try clear c13b0
                  try clear c13b1
                  try clear c16
                  try clear c24
                  try clear c31
                  try clear p2
                  try clear p6
                  obtain ⟨kq, x58_25, rfl, HA, HJ25, HB⟩ := hcut
                  cases kq with
                  | zero => exact absurd HA.out (by simp [affluxlaw05_SealTurned.j2])
                  | succ kj25 =>
                    have H := HA.out
                    clear HA
                    simp only [affluxlaw05_SealTurned.j2] at H
                    by_cases c32 : x58_25 = true
                    · subst c32
                      have H1 : (some false) = some r := by rw [if_pos rfl] at H; exact H
                      clear H
                      have H := H1
                      clear H1
                      obtain rfl := Option.some.inj H
                      go_wp2
                      go_ret
                      exact ⟨by first | rfl | (simp [errW_none, errW_some] <;> rfl) | (simp [*, errW_none, errW_some] <;> rfl), by repeat (first | (with_reducible first | exact HB.out | apply below_alloc | apply pw_below_drewN | apply below_drew1) | exact HB.out)⟩
                    · replace c32 := Bool.eq_false_iff.mpr c32
                      subst c32
                      have H1 : (if (IntKind.u64.wrap (wrap64 ((wrap64 (8 * (t114.size : Int))) - 32))) = 0 then (none) else ((affluxref05_Turned.f t114 (wrap64 (32 + (wrap64 (Int.tmod (IntKind.u64.wrap (a1)) (IntKind.u64.wrap (wrap64 ((wrap64 (8 * (t114.size : Int))) - 32))))))) a2).bind fun t116 => ((PA.seal_Open.f kj25 t116).bind fun bt117 => (if ((t116.toList == t114.toList) == (bt117.2.2 == 0)) = true then ((PA.affluxlaw05_awake.f kj25).bind fun t120 => (some t120)) else (some false))))) = some r := by rw [if_neg (show ¬ (false = true) by decide)] at H; exact H
                      clear H
                      have H := H1
                      clear H1
                      by_cases c33 : (IntKind.u64.wrap (wrap64 ((wrap64 (8 * (t114.size : Int))) - 32))) = 0
                      · rw [if_pos c33] at H
                        exact absurd H (by simp)
                      · rw [if_neg c33] at H
                        have c33b0 : ((IntKind.u64.wrap (wrap64 ((wrap64 (8 * (t114.size : Int))) - 32))) == 0) = false := beq_eq_false_iff_ne.mpr c33
                        have c33b1 : ((IntKind.u64.wrap (wrap64 ((wrap64 (8 * (t114.size : Int))) - 32))) != 0) = true := bne_iff_ne.mpr c33
                        replace H := Option.bind_eq_some_iff.mp H
                        obtain ⟨t116, A340, H⟩ := H
                        replace H : ((PA.seal_Open.f kj25 t116).bind fun bt117 => (if ((t116.toList == t114.toList) == (bt117.2.2 == 0)) = true then ((PA.affluxlaw05_awake.f kj25).bind fun t120 => (some t120)) else (some false))) = some r := H
                        have A34 := Aside0.mk A340
                        clear A340
                        replace H := Option.bind_eq_some_iff.mp H
                        obtain ⟨⟨t117, t118, t119⟩, A350, H⟩ := H
                        replace H : (if ((t116.toList == t114.toList) == (t119 == 0)) = true then ((PA.affluxlaw05_awake.f kj25).bind fun t120 => (some t120)) else (some false)) = some r := H
                        have A35 := Aside0.mk A350
                        clear A350
                        by_cases c36 : ((t116.toList == t114.toList) == (t119 == 0)) = true
                        · rw [if_pos c36] at H
                          have c36b0 : ((t116.toList == t114.toList) == (t119 == 0)) = true := c36
                          (try (have c36b1 : decide ((t116.toList == t114.toList) = (t119 == 0)) = true := by simpa using c36))
                          (try (have c36b2 : ((t116.toList == t114.toList) == (t119 == 0)) = true := by simpa using c36))
                          clear c36
                          replace H := Option.bind_eq_some_iff.mp H
                          obtain ⟨t120, A370, H⟩ := H
                          replace H : (some t120) = some r := H
                          have A37 := Aside0.mk A370
                          clear A370
                          obtain rfl := Option.some.inj H
                          go_wp2_with (first | ((with_reducible refine gate_callee (f := 16) rfl ?_); refine goesL_ (some 71) rfl rfl Tryd.func16 (by kernel_rfl) rfl #[.string t114, .int .i64 (wrap64 (32 + (wrap64 (Int.tmod (IntKind.u64.wrap (a1)) (IntKind.u64.wrap (wrap64 ((wrap64 (8 * (t114.size : Int))) - 32))))))), .int .u64 a2] rfl (by (try simp only [List.map_toArray, List.map_cons, List.map_nil]); first | done | rfl | (simp only [List.length_drop, List.length_take, Int.toNat_natCast] <;> rfl)) ?_; (with_reducible refine (affluxref05_Turned.calls t114 (wrap64 (32 + (wrap64 (Int.tmod (IntKind.u64.wrap (a1)) (IntKind.u64.wrap (wrap64 ((wrap64 (8 * (t114.size : Int))) - 32))))))) a2 t116 _ A34.out).mono ?_); rintro e w38 ⟨rfl, hb⟩; refine ⟨_, rfl, ?_⟩; have n0_ := Aside0.mk (below_step (by repeat (first | (with_reducible first | exact HB.out | apply below_alloc | apply pw_below_drewN | apply below_drew1) | exact HB.out)) hb); clear HB; have HB := n0_; clear n0_; (try clear hb); (try clear hb2); (try clear hk); (try clear hi)) | ((with_reducible refine gate_callee (f := 17) rfl ?_); refine goesL_ (some 74) rfl rfl Tryd.func17 (by kernel_rfl) rfl #[.string t116] rfl (by (try simp only [List.map_toArray, List.map_cons, List.map_nil]); first | done | rfl | (simp only [List.length_drop, List.length_take, Int.toNat_natCast] <;> rfl)) ?_; (with_reducible refine (PA.seal_Open.calls kj25 t116 t117 t118 t119 _ ?side1 A35.out).mono ?_); (case side1 => exact SumW.Tab.below HT.out (by repeat (first | (with_reducible first | exact HB.out | apply below_alloc | apply pw_below_drewN | apply below_drew1) | exact HB.out)) (SumW.Tab.lt HT.out)); rintro e w39 ⟨rfl, hb⟩; refine ⟨_, rfl, ?_⟩; have n0_ := Aside0.mk (below_step (by repeat (first | (with_reducible first | exact HB.out | apply below_alloc | apply pw_below_drewN | apply below_drew1) | exact HB.out)) hb); clear HB; have HB := n0_; clear n0_; (try clear hb); (try clear hb2); (try clear hk); (try clear hi)) | (go_at_call 9; (with_reducible refine (PA.affluxlaw05_awake.calls kj25  t120 _ ?side1 A37.out).mono ?_); (case side1 => exact SumW.Tab.below HT.out (by repeat (first | (with_reducible first | exact HB.out | apply below_alloc | apply pw_below_drewN | apply below_drew1) | exact HB.out)) (SumW.Tab.lt HT.out)); rintro e w40 ⟨rfl, hb⟩; have n0_ := Aside0.mk (below_step (by repeat (first | (with_reducible first | exact HB.out | apply below_alloc | apply pw_below_drewN | apply below_drew1) | exact HB.out)) hb); clear HB; have HB := n0_; clear n0_; (try clear hb); (try clear hb2); (try clear hk); (try clear hi)))
                          go_ret
                          exact ⟨by first | rfl | (simp [errW_none, errW_some] <;> rfl) | (simp [*, errW_none, errW_some] <;> rfl), by repeat (first | (with_reducible first | exact HB.out | apply below_alloc | apply pw_below_drewN | apply below_drew1) | exact HB.out)⟩
                        · rw [if_neg c36] at H
                          have c36b0 : ((t116.toList == t114.toList) == (t119 == 0)) = false := by simpa using c36
                          (try (have c36b1 : decide ((t116.toList == t114.toList) = (t119 == 0)) = false := by simpa using c36))
                          (try (have c36b2 : ((t116.toList == t114.toList) == (t119 == 0)) = false := by simpa using c36))
                          (try (have c36b3 : ¬ ((t116.toList == t114.toList) = (t119 == 0)) := by simpa using c36))
                          clear c36
                          obtain rfl := Option.some.inj H
                          go_wp2_with (first | ((with_reducible refine gate_callee (f := 16) rfl ?_); refine goesL_ (some 71) rfl rfl Tryd.func16 (by kernel_rfl) rfl #[.string t114, .int .i64 (wrap64 (32 + (wrap64 (Int.tmod (IntKind.u64.wrap (a1)) (IntKind.u64.wrap (wrap64 ((wrap64 (8 * (t114.size : Int))) - 32))))))), .int .u64 a2] rfl (by (try simp only [List.map_toArray, List.map_cons, List.map_nil]); first | done | rfl | (simp only [List.length_drop, List.length_take, Int.toNat_natCast] <;> rfl)) ?_; (with_reducible refine (affluxref05_Turned.calls t114 (wrap64 (32 + (wrap64 (Int.tmod (IntKind.u64.wrap (a1)) (IntKind.u64.wrap (wrap64 ((wrap64 (8 * (t114.size : Int))) - 32))))))) a2 t116 _ A34.out).mono ?_); rintro e w41 ⟨rfl, hb⟩; refine ⟨_, rfl, ?_⟩; have n0_ := Aside0.mk (below_step (by repeat (first | (with_reducible first | exact HB.out | apply below_alloc | apply pw_below_drewN | apply below_drew1) | exact HB.out)) hb); clear HB; have HB := n0_; clear n0_; (try clear hb); (try clear hb2); (try clear hk); (try clear hi)) | ((with_reducible refine gate_callee (f := 17) rfl ?_); refine goesL_ (some 74) rfl rfl Tryd.func17 (by kernel_rfl) rfl #[.string t116] rfl (by (try simp only [List.map_toArray, List.map_cons, List.map_nil]); first | done | rfl | (simp only [List.length_drop, List.length_take, Int.toNat_natCast] <;> rfl)) ?_; (with_reducible refine (PA.seal_Open.calls kj25 t116 t117 t118 t119 _ ?side1 A35.out).mono ?_); (case side1 => exact SumW.Tab.below HT.out (by repeat (first | (with_reducible first | exact HB.out | apply below_alloc | apply pw_below_drewN | apply below_drew1) | exact HB.out)) (SumW.Tab.lt HT.out)); rintro e w42 ⟨rfl, hb⟩; refine ⟨_, rfl, ?_⟩; have n0_ := Aside0.mk (below_step (by repeat (first | (with_reducible first | exact HB.out | apply below_alloc | apply pw_below_drewN | apply below_drew1) | exact HB.out)) hb); clear HB; have HB := n0_; clear n0_; (try clear hb); (try clear hb2); (try clear hk); (try clear hi)))
                          go_ret
                          exact ⟨by first | rfl | (simp [errW_none, errW_some] <;> rfl) | (simp [*, errW_none, errW_some] <;> rfl), by repeat (first | (with_reducible first | exact HB.out | apply below_alloc | apply pw_below_drewN | apply below_drew1) | exact HB.out)⟩

end Go.Proofs.YtlpjibmafpegeaaDoor.PT
