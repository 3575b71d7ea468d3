/- lock: the wants of all lists, united. -/
import Derived.Test.YtbpadimcnamdpaaLkSort
namespace Go.Proofs.Ytbpadimcnamdpaa.PK
open Go.RowKit Go.Proofs.YtbpadimcnamdpaaW.PrintWords Go.Proofs.YtbpadimcnamdpaaW.PrintLast Go.Proofs.YtbpadimcnamdpaaW.PrintMore
theorem info4 : (Try.prog.info? 4).map (·.size) = some 1 := by kernel_rfl
/-- One more want, behind wants that rise by names. -/
def uniStep (out : List W) (x : W) : List W := if 0 < out.length ∧ (rd_T31 out ((out.length - 1 : Nat) : Int)).f0.toList = x.f0.toList then out.set (out.length - 1) ⟨(rd_T31 out ((out.length - 1 : Nat) : Int)).f0, (rd_T31 out ((out.length - 1 : Nat) : Int)).f1 || x.f1⟩ else out ++ [x]
def uniL (zs : List W) : List W := zs.foldl uniStep []
theorem uniL_snoc (zs : List W) (k : Nat) (h : k < zs.length) : uniL (zs.take (k + 1)) = uniStep (uniL (zs.take k)) (rd_T31 zs (k : Int)) := by
  unfold uniL
  rw [List.take_succ_eq_append_getElem h, List.foldl_append, rd31_at zs k h]
  rfl
theorem uniStep_length (out : List W) (x : W) : (uniStep out x).length ≤ out.length + 1 := by
  unfold uniStep
  split
  · rw [List.length_set]; omega
  · simp
theorem uniL_length (zs : List W) : (uniL zs).length ≤ zs.length := by
  unfold uniL
  have : ∀ (zs out : List W), (zs.foldl uniStep out).length ≤ out.length + zs.length := by
    intro zs
    induction zs with
    | nil => intro out; simp
    | cons x r ih =>
      intro out
      rw [List.foldl_cons]
      have := ih (uniStep out x)
      have := uniStep_length out x
      simp only [List.length_cons]; omega
  simpa using this zs []
theorem flat31 {w : World} {base : Nat} {ok1 ok2 : Nat → Prop} {x : W} {cs : List Value} (h : k31.M w base ok1 x cs) : k31.M w base ok2 x cs := by
  rw [k31_openM h]
  exact k31_mkM w base ok2 x
set_option maxHeartbeats 2000000 in
set_option maxRecDepth 100000 in
theorem union_calls (A : Option Addr) (c : Nat) (ll : List (List W)) (w : World) (hC : Kd.C (Kd.slice 31 k31) w A ll.length ll) (hsm : (ll.flatten).length ≤ 20) :
    Calls Try.prog 11 #[.slice A ll.length c] w fun e w' => ∃ v, e = .returned v ∧ Kd.R k31 31 w' w.heap.size (fun _ => True) v (uniL (sortL ll.flatten)) ∧ Below w.heap.size w w' := by
  have hcon := concat_calls A c ll w hC (by omega)
  clear hC
  generalize ll.flatten = xs at hcon hsm ⊢
  have HCON := Aside0.mk hcon
  clear hcon
  go_enter Try.func11, Try.ntmps11
  go_wp2_with fail
  refine HCON.out.mono ?_
  rintro e w1 ⟨v3, rfl, ho1, hb1⟩
  obtain ⟨A3, c3, rfl⟩ := Kd.R_slice ho1
  have HO1 := Aside0.mk ho1
  have HB1 := Aside0.mk hb1
  clear ho1 hb1
  go_wp2_with fail
  refine (sort_calls A3 c3 xs _ _ w1 HO1.out hsm).mono ?_
  rintro e w2 ⟨rfl, ho2, hg2⟩
  have HB2 := Aside0.mk (HB1.out.grown hg2 HB1.out.size (fun k hk => Kd.R_base HO1.out k hk))
  have hlen := sortL_length xs
  obtain ⟨zs, hzs⟩ : ∃ zs, zs = sortL xs := ⟨_, rfl⟩
  rw [← hzs] at ho2 hlen
  have HZS := Aside0.mk hzs
  clear hzs
  rw [← hlen] at ho2 hsm
  rw [← hlen]
  have HO2 := Aside0.mk (Kd.R_flat (ok' := fun k => some k = (Value.slice A3 zs.length c3).ownBlock) flat31 ho2 (fun k hk _ => hk.symm))
  clear ho2 hg2 HO1 HB1 hlen
  go_wp2_with fail
  have hv3 : ∀ k, some k = (Value.slice A3 zs.length c3).ownBlock → k < w2.heap.size := fun k hk => Kd.R_lt HO2.out k hk.symm
  have HV3 := Aside0.mk hv3
  clear hv3
  go_loopg [14, 4] (zs.length + 1) (fun kq v14 v4 w' => ∃ k : Nat, v14 = .int .i64 k ∧ Aside0 (k + kq = zs.length + 1) ∧ k ≤ zs.length ∧ Aside0 (Kd.R k31 31 w' w.heap.size (fun b => some b ≠ (Value.slice A3 zs.length c3).ownBlock) v4 (uniL (zs.take k))) ∧ Aside0 (Kd.R k31 31 w' w.heap.size (fun b => some b = (Value.slice A3 zs.length c3).ownBlock) (Value.slice A3 zs.length c3) zs) ∧ Aside0 (Below w.heap.size w w'))
  case atStart => exact ⟨0, rfl, ⟨by omega⟩, Nat.zero_le _, ⟨(Kd.R_nil k31 31 w2 w.heap.size _ : _)⟩, HO2, HB2⟩
  case round =>
    clear HO2 HB2 HV3
    obtain ⟨k, rfl, HK, hk, HO4, HO3, HB⟩ := hrel
    cases gk with
    | zero => exact absurd HK.out (by omega)
    | succ k1 =>
      by_cases hkl : k < zs.length
      · obtain ⟨ad, e0, hx0, hx1⟩ := at_T31 (Kd.R_reads' HO3.out).2.2 (k : Int) (by omega) (by omega)
        cases e0
        simp only [Int.toNat_natCast] at hx0 hx1
        have HU := Aside0.mk (uniL_snoc zs k hkl)
        have HUL := Aside0.mk (uniL_length (zs.take k))
        have hul : (uniL (zs.take k)).length ≤ 20 := by have := HUL.out; rw [List.length_take] at this; omega
        obtain ⟨x, hx⟩ : ∃ x, x = rd_T31 zs (k : Int) := ⟨_, rfl⟩
        rw [← hx] at hx0 hx1 HU
        clear hx HUL
        generalize uniL (zs.take k) = out at HO4 HU hul
        obtain ⟨A4, c4, rfl⟩ := Kd.R_slice HO4.out
        by_cases hpos : 0 < out.length
        · obtain ⟨m, hm⟩ : ∃ m, out.length = m + 1 := ⟨out.length - 1, by omega⟩
          have hml : (m : Int) < (out.length : Int) := by omega
          have e1 : IntKind.i64.wrap ((out.length : Int) - 1) = (m : Int) := by rw [IntKind.wrap_i64]; omega
          have hposI : (0 : Int) < (out.length : Int) := by omega
          have HM := Aside0.mk hm
          have HU3 : Aside0 (uniL (zs.take (k + 1)) = if (rd_T31 out (m : Int)).f0.toList = x.f0.toList then out.set m ⟨(rd_T31 out (m : Int)).f0, (rd_T31 out (m : Int)).f1 || x.f1⟩ else out ++ [x]) := ⟨by
            rw [HU.out]; unfold uniStep
            rw [show out.length - 1 = m by omega]
            by_cases h : (rd_T31 out (m : Int)).f0.toList = x.f0.toList
            · rw [if_pos ⟨hpos, h⟩, if_pos h]
            · rw [if_neg (fun hh => h hh.2), if_neg h]⟩
          clear HU hm
          obtain ⟨y, hy⟩ : ∃ y, y = rd_T31 out (m : Int) := ⟨_, rfl⟩
          rw [← hy] at HU3
          have HY := Aside0.mk hy
          clear hy
          by_cases hE : y.f0.toList = x.f0.toList
          · have hE1 : (y.f0.toList == x.f0.toList) = true := beq_iff_eq.2 hE
            have HU2 : Aside0 (uniL (zs.take (k + 1)) = out.set m ⟨y.f0, y.f1 || x.f1⟩) := ⟨by rw [HU3.out, if_pos hE]⟩
            clear HU3 hE
            go_wp2_with fail
            have hy0 : (wr.alloc (.cells #[.string x.f0, .bool x.f1] 31)).cell? ⟨wr.heap.size, 0, none⟩ = some (.string x.f0) := blk_cell (blk_new wr _) 0
            have hy1 : (wr.alloc (.cells #[.string x.f0, .bool x.f1] 31)).cell? ⟨wr.heap.size, 1, none⟩ = some (.bool x.f1) := blk_cell (blk_new wr _) 1
            replace HO4 := Aside0.mk (Kd.R_alloc HO4.out (.cells #[.string x.f0, .bool x.f1] 31))
            replace HO3 := Aside0.mk (Kd.R_alloc HO3.out (.cells #[.string x.f0, .bool x.f1] 31))
            replace HB := Aside0.mk (below_alloc HB.out (.cells #[.string x.f0, .bool x.f1] 31))
            clear hx0 hx1
            generalize hgw : wr.heap.size = gw at hy0 hy1 ⊢
            generalize (wr.alloc (.cells #[.string x.f0, .bool x.f1] 31)) = W5 at hy0 hy1 HO4 HO3 HB ⊢
            obtain ⟨ad4, e4, hz0, hz1⟩ := at_T31 (Kd.R_reads' HO4.out).2.2 (m : Int) (by omega) hml
            obtain ⟨g4, c4', ef, _, _, _⟩ := Kd.R_form HO4.out (by omega)
            injection ef with ef1 _ ef3
            subst ef1 ef3
            injection e4 with e4
            subst e4
            rw [← HY.out] at hz0 hz1
            simp only [Int.toNat_natCast] at hz0 hz1
            have hadd : (⟨g4, 0, none⟩ : Addr).add (m * 2) = ⟨g4, m * 2, none⟩ := by rw [add_at, Nat.zero_add]
            rw [hadd] at hz0 hz1
            dsimp only at hz1
            clear hadd
            go_quiet (fail)
            replace hy0 : (W5.drewN nq).cell? ⟨gw, 0, none⟩ = some (.string x.f0) := hy0
            replace hy1 : (W5.drewN nq).cell? ⟨gw, 1, none⟩ = some (.bool x.f1) := hy1
            replace hz0 : (W5.drewN nq).cell? ⟨g4, m * 2, none⟩ = some (.string y.f0) := hz0
            replace hz1 : (W5.drewN nq).cell? ⟨g4, m * 2 + 1, none⟩ = some (.bool y.f1) := hz1
            replace HO4 := Aside0.mk (Kd.R_drewN HO4.out nq)
            replace HO3 := Aside0.mk (Kd.R_drewN HO3.out nq)
            replace HB := Aside0.mk (pw_below_drewN HB.out nq)
            generalize W5.drewN nq = W6 at hy0 hy1 hz0 hz1 HO4 HO3 HB ⊢
            cases hyf : y.f1 with
            | true =>
              rw [hyf] at HU2 hz1
              change Aside0 (uniL (zs.take (k + 1)) = out.set m ⟨y.f0, true⟩) at HU2
              go_wp2_with (first | ((with_reducible refine gate_store (t := 4) (p := 47) rfl ?_); refine Kd.R_store k31 (w0 := w) w.heap.size rfl rfl 4 (.tmp 47) (.tmp 45) rfl 31 (m : Int) 1 out ⟨y.f0, true⟩ (.bool true) [.bool true] [.string y.f0, .bool true] (fun b => some b ≠ (Value.slice (some ad) zs.length c3).ownBlock) (fun _ => False) rfl ?so rfl rfl info4 (fun q hq => by rcases List.mem_singleton.1 hq with rfl; rfl) HO4.out (by omega) hml rfl ?sc (Nat.le_refl _) ?sm (fun _ hk => hk.elim) HB.out ?_; (case so => rfl); (case sc => exact fun j u hj => by match j, hj with | 0, hj => cases hj; exact hz0 | 1, hj => cases hj; exact hz1 | (j + 2), hj => simp at hj); (case sm => exact k31_mkM _ _ _ ⟨y.f0, true⟩); intro w7 ho hb hg_; rw [Int.toNat_natCast, ← HU2.out] at ho; have HO5 := Aside0.mk ho; have HB5 := Aside0.mk hb; have HO6 := Aside0.mk (Kd.R_grown HO3.out hg_ (fun k hk he => HO4.out.1 k he.symm hk)); clear hg_ ho hb HO3 HO4 HB hz0 hz1 hy0 hy1))
              go_roundg k1
              case measure => have := HK.out; omega
              case rel => exact ⟨k + 1, by go_num, ⟨by have := HK.out; omega⟩, by omega, HO5, HO6, HB5⟩
            | false =>
              rw [hyf] at HU2 hz1
              change Aside0 (uniL (zs.take (k + 1)) = out.set m ⟨y.f0, x.f1⟩) at HU2
              go_wp2_with (first | ((with_reducible refine gate_store (t := 4) (p := 47) rfl ?_); refine Kd.R_store k31 (w0 := w) w.heap.size rfl rfl 4 (.tmp 47) (.tmp 45) rfl 31 (m : Int) 1 out ⟨y.f0, x.f1⟩ (.bool x.f1) [.bool x.f1] [.string y.f0, .bool false] (fun b => some b ≠ (Value.slice (some ad) zs.length c3).ownBlock) (fun _ => False) rfl ?so rfl rfl info4 (fun q hq => by rcases List.mem_singleton.1 hq with rfl; rfl) HO4.out (by omega) hml rfl ?sc (Nat.le_refl _) ?sm (fun _ hk => hk.elim) HB.out ?_; (case so => rfl); (case sc => exact fun j u hj => by match j, hj with | 0, hj => cases hj; exact hz0 | 1, hj => cases hj; exact hz1 | (j + 2), hj => simp at hj); (case sm => exact k31_mkM _ _ _ ⟨y.f0, x.f1⟩); intro w7 ho hb hg_; rw [Int.toNat_natCast, ← HU2.out] at ho; have HO5 := Aside0.mk ho; have HB5 := Aside0.mk hb; have HO6 := Aside0.mk (Kd.R_grown HO3.out hg_ (fun k hk he => HO4.out.1 k he.symm hk)); clear hg_ ho hb HO3 HO4 HB hz0 hz1 hy0 hy1))
              go_roundg k1
              case measure => have := HK.out; omega
              case rel => exact ⟨k + 1, by go_num, ⟨by have := HK.out; omega⟩, by omega, HO5, HO6, HB5⟩
          · have hE1 : (y.f0.toList == x.f0.toList) = false := beq_eq_false_iff_ne.2 hE
            have HU2 : Aside0 (uniL (zs.take (k + 1)) = out ++ [x]) := ⟨by rw [HU3.out, if_neg hE]⟩
            clear HU3 hE
            go_wp2_with fail
            have hy0 : (wr.alloc (.cells #[.string x.f0, .bool x.f1] 31)).cell? ⟨wr.heap.size, 0, none⟩ = some (.string x.f0) := blk_cell (blk_new wr _) 0
            have hy1 : (wr.alloc (.cells #[.string x.f0, .bool x.f1] 31)).cell? ⟨wr.heap.size, 1, none⟩ = some (.bool x.f1) := blk_cell (blk_new wr _) 1
            replace HO4 := Aside0.mk (Kd.R_alloc HO4.out (.cells #[.string x.f0, .bool x.f1] 31))
            replace HO3 := Aside0.mk (Kd.R_alloc HO3.out (.cells #[.string x.f0, .bool x.f1] 31))
            replace HB := Aside0.mk (below_alloc HB.out (.cells #[.string x.f0, .bool x.f1] 31))
            clear hx0 hx1
            generalize hgw : wr.heap.size = gw at hy0 hy1 ⊢
            generalize (wr.alloc (.cells #[.string x.f0, .bool x.f1] 31)) = W5 at hy0 hy1 HO4 HO3 HB ⊢
            obtain ⟨ad4, e4, hz0, hz1⟩ := at_T31 (Kd.R_reads' HO4.out).2.2 (m : Int) (by omega) hml
            obtain ⟨g4, c4', ef, _, _, _⟩ := Kd.R_form HO4.out (by omega)
            injection ef with ef1 _ ef3
            subst ef1 ef3
            injection e4 with e4
            subst e4
            rw [← HY.out] at hz0 hz1
            simp only [Int.toNat_natCast] at hz0 hz1
            have hadd : (⟨g4, 0, none⟩ : Addr).add (m * 2) = ⟨g4, m * 2, none⟩ := by rw [add_at, Nat.zero_add]
            rw [hadd] at hz0 hz1
            dsimp only at hz1
            clear hadd
            go_quiet (fail)
            replace hy0 : (W5.drewN nq).cell? ⟨gw, 0, none⟩ = some (.string x.f0) := hy0
            replace hy1 : (W5.drewN nq).cell? ⟨gw, 1, none⟩ = some (.bool x.f1) := hy1
            replace hz0 : (W5.drewN nq).cell? ⟨g4, m * 2, none⟩ = some (.string y.f0) := hz0
            replace hz1 : (W5.drewN nq).cell? ⟨g4, m * 2 + 1, none⟩ = some (.bool y.f1) := hz1
            replace HO4 := Aside0.mk (Kd.R_drewN HO4.out nq)
            replace HO3 := Aside0.mk (Kd.R_drewN HO3.out nq)
            replace HB := Aside0.mk (pw_below_drewN HB.out nq)
            generalize W5.drewN nq = W6 at hy0 hy1 hz0 hz1 HO4 HO3 HB ⊢
            clear hz0 hz1
            have HFR : Aside0 (∀ k, W6.heap.size ≤ k → some k ≠ (Value.slice (some ad) zs.length c3).ownBlock) := ⟨fun k hk he => absurd (Kd.R_lt HO3.out k he.symm) (by omega)⟩
            go_wp2_with (first | ((with_reducible refine gate_builtin (b := .append) (xs := #[.tmp 48, .tmp 50]) rfl ?_); at_builtin; refine Kd.R_append k31 (w0 := w) w.heap.size rfl (.tmp 48) (.tmp 50) 22 31 (.agg #[(.string ⟨#[]⟩), (.bool false)]) 24 rfl Try.underlying22 info31 rfl (by decide) (by omega) (.slice (some ⟨g4, 0, none⟩) out.length c4) out x [.string x.f0, .bool x.f1] (fun b => some b ≠ (Value.slice (some ad) zs.length c3).ownBlock) (fun _ => False) rfl rfl (k31_mkM _ _ _ x) (fun _ hk => hk.elim) HFR.out HO4.out HB.out HB.out.size (by omega) ?_; intro v1 w7 ho hb hg_ hat_; rw [← HU2.out] at ho; have HO5 := Aside0.mk ho; have HB5 := Aside0.mk hb; have HO6 := Aside0.mk (Kd.R_grown HO3.out hg_ (fun k hk he => HO4.out.1 k he.symm hk)); clear hg_ hat_ ho hb HO3 HO4 HB))
            go_roundg k1
            case measure => have := HK.out; omega
            case rel => exact ⟨k + 1, by go_num, ⟨by have := HK.out; omega⟩, by omega, HO5, HO6, HB5⟩
        · have HU2 : Aside0 (uniL (zs.take (k + 1)) = out ++ [x]) := ⟨by rw [HU.out]; unfold uniStep; rw [if_neg (by omega)]⟩
          clear HU
          go_wp2_with fail
          go_quiet (fail)
          have hy0 : ((wr.alloc (.cells #[.string x.f0, .bool x.f1] 31)).drewN nq).cell? ⟨wr.heap.size, 0, none⟩ = some (.string x.f0) := blk_cell (blk_new wr _) 0
          have hy1 : ((wr.alloc (.cells #[.string x.f0, .bool x.f1] 31)).drewN nq).cell? ⟨wr.heap.size, 1, none⟩ = some (.bool x.f1) := blk_cell (blk_new wr _) 1
          replace HO4 := Aside0.mk (Kd.R_drewN (Kd.R_alloc HO4.out (.cells #[.string x.f0, .bool x.f1] 31)) nq)
          replace HO3 := Aside0.mk (Kd.R_drewN (Kd.R_alloc HO3.out (.cells #[.string x.f0, .bool x.f1] 31)) nq)
          replace HB := Aside0.mk (pw_below_drewN (below_alloc HB.out (.cells #[.string x.f0, .bool x.f1] 31)) nq)
          clear hx0 hx1
          generalize ((wr.alloc (.cells #[.string x.f0, .bool x.f1] 31)).drewN nq) = W6 at hy0 hy1 HO4 HO3 HB ⊢
          have HFR : Aside0 (∀ k, W6.heap.size ≤ k → some k ≠ (Value.slice (some ad) zs.length c3).ownBlock) := ⟨fun k hk he => absurd (Kd.R_lt HO3.out k he.symm) (by omega)⟩
          go_wp2_with (first | ((with_reducible refine gate_builtin (b := .append) (xs := #[.tmp 48, .tmp 50]) rfl ?_); at_builtin; refine Kd.R_append k31 (w0 := w) w.heap.size rfl (.tmp 48) (.tmp 50) 22 31 (.agg #[(.string ⟨#[]⟩), (.bool false)]) 24 rfl Try.underlying22 info31 rfl (by decide) (by omega) (.slice A4 out.length c4) out x [.string x.f0, .bool x.f1] (fun b => some b ≠ (Value.slice (some ad) zs.length c3).ownBlock) (fun _ => False) rfl rfl (k31_mkM _ _ _ x) (fun _ hk => hk.elim) HFR.out HO4.out HB.out HB.out.size (by omega) ?_; intro v1 w7 ho hb hg_ hat_; rw [← HU2.out] at ho; have HO5 := Aside0.mk ho; have HB5 := Aside0.mk hb; have HO6 := Aside0.mk (Kd.R_grown HO3.out hg_ (fun k hk he => HO4.out.1 k he.symm hk)); clear hg_ hat_ ho hb HO3 HO4 HB))
          go_roundg k1
          case measure => have := HK.out; omega
          case rel => exact ⟨k + 1, by go_num, ⟨by have := HK.out; omega⟩, by omega, HO5, HO6, HB5⟩
      · have HE : Aside0 (Kd.R k31 31 wr w.heap.size (fun _ => True) u4 (uniL zs)) := ⟨by have := Kd.R_mono HO4.out (fun _ _ => trivial); rwa [List.take_of_length_le (by omega)] at this⟩
        go_wp2
        go_ret
        exact ⟨_, rfl, by rw [← HZS.out]; exact HE.out, HB.out⟩
end Go.Proofs.Ytbpadimcnamdpaa.PK
