/- Texts of this claim, joined: DkNamesW, DkMd, DkMdR, DkMdP, DkMdQ, DkMdE, DkMdC, DkSame, DkMdD, DkDoesP, DkDoes0, DkDoes1, DkDoes2, DkDoes3, DkDoes4, DkPlaysP, DkDoG. -/
import Derived.Test.YtihlacambdfmfaaDkE1
import Derived.Deep.DeepCutAuto
import Derived.Deep.CutBlock
/- DiskNames, walked. -/
namespace Go.Proofs.Ytihlacambdfmfaa.PK
open Go.RowKit Go.Proofs.YtihlacambdfmfaaW.PrintWords Go.Proofs.YtihlacambdfmfaaW.PrintLast Go.Proofs.YtihlacambdfmfaaW.PrintMore
open Go.Maps
open Go.Proofs.Ytihlacambdfmfaa.PR
theorem appIs_uses {d d' : DS} {name : ByteArray} {data : List ByteArray} (h : AppIs d name data d') : d'.uses ≤ d.uses + 1 := by
  by_cases h0 : appendC d name data = 0
  · obtain ⟨k, rfl⟩ := h.2 h0
    exact useD_uses d
  · rw [h.1 h0]
    exact useD_uses d
theorem leq_no {a b : ByteArray} (h : lessN a b = true) : lessN b a = false := by
  cases hb : lessN b a with
  | false => rfl
  | true => exact absurd (lessN_trans h hb) (by rw [lessN_irr]; decide)
theorem leqS (t : TypeId) (a b : ByteArray) : binOp .leq t (.string a) (.string b) = pure (.bool (Op.bytesLess a.toList b.toList || a.toList == b.toList)) := by simp [binOp, Op.stringOp]
theorem less_before : ∀ a b : List UInt8, Op.bytesLess a b = bytesBefore a b
  | [], [] => rfl
  | _ :: _, [] => rfl
  | [], _ :: _ => rfl
  | a :: r, b :: s => by simp only [Op.bytesLess, bytesBefore, less_before r s]
/-- A name that comes later isn't at most the one ahead of it. -/
theorem leq_facts {a b : ByteArray} (h : lessN b a = true) : Op.bytesLess a.toList b.toList = false ∧ (a.toList == b.toList) = false := by
  have e1 : a.toList = a.data.toList := ByteArray.toList_eq a
  have e2 : b.toList = b.data.toList := ByteArray.toList_eq b
  refine ⟨by rw [less_before, e1, e2]; exact leq_no h, ?_⟩
  rw [e1, e2]
  refine beq_eq_false_iff_ne.2 fun e => ?_
  unfold lessN at h
  have h2 := lessN_irr b
  unfold lessN at h2
  rw [e, h2] at h
  cases h
set_option maxHeartbeats 4000000 in
set_option maxRecDepth 100000 in
theorem DiskNames_calls (A B : Option Addr) (ca cb : Nat) (l fronts : List ByteArray) (w : World) (hA : Kd.C Kd.string w A l.length l) (hB : Kd.C Kd.string w B fronts.length fronts) (hca : l.length ≤ ca) (hcb : fronts.length ≤ cb) (hsl : ∀ s ∈ l, s.size ≤ maxLen) (hsf : ∀ s ∈ fronts, s.size ≤ maxLen) :
    Calls Try.prog 3 #[.slice A l.length ca, .slice B fronts.length cb] w fun e w' => e = .returned (.bool true) ∧ Below w.heap.size w w' := by
  have HA := Aside0.mk hA
  have HB := Aside0.mk hB
  have HSL := Aside0.mk hsl
  have HSF := Aside0.mk hsf
  have hma := Kd.C_max hA
  have hmb := Kd.C_max hB
  clear hA hB hsl hsf
  by_cases hl : 30 < l.length
  · go_enter Try.func3, Try.ntmps3
    go_wp2_with fail
    refine (awake_calls _).mono ?_
    rintro e w1 ⟨rfl, hb1⟩
    have HBW := Aside0.mk hb1
    clear hb1
    go_wp2
    go_ret
    exact ⟨rfl, HBW.out⟩
  · by_cases hf : 10 < fronts.length
    · go_enter Try.func3, Try.ntmps3
      go_wp2_with fail
      refine (awake_calls _).mono ?_
      rintro e w1 ⟨rfl, hb1⟩
      have HBW := Aside0.mk hb1
      clear hb1
      go_wp2
      go_ret
      exact ⟨rfl, HBW.out⟩
    · go_enter Try.func3, Try.ntmps3
      go_wp2_with fail
      refine (awake_calls _).mono ?_
      rintro e w0 ⟨rfl, hb0⟩
      have HB0 := Aside0.mk hb0
      clear hb0
      go_wp2_with fail
      refine (new_run w w0 1000 (by decide) (by decide) HB0.out).mono ?_
      rintro e w1 ⟨rfl, hr1, -⟩
      have HR1 := Aside0.mk hr1
      clear hr1 HB0
      generalize w0.heap.size + 1 = g at HR1 ⊢
      generalize hb : w0.heap.size = bm at HR1
      clear hb
      go_wp2_with fail
      go_loopg [6] (l.length + 1) (fun kq v6 w' => ∃ (k : Nat) (d : DS), v6 = .int .i64 k ∧ Aside0 (k + kq = l.length + 1) ∧ k ≤ l.length ∧ Aside0 (d.uses ≤ k) ∧ Aside0 (Run w w' g bm d))
      case atStart => exact ⟨0, _, rfl, ⟨by omega⟩, Nat.zero_le _, ⟨by show (0 : Int) ≤ _; omega⟩, HR1⟩
      case round =>
        clear HR1
        obtain ⟨k, d, rfl, HQ, hk, HU, HR⟩ := hrel
        cases gk with
        | zero => exact absurd HQ.out (by omega)
        | succ k1 =>
          by_cases hkl : k < l.length
          · obtain ⟨ad, eA, hx⟩ := Kd.at_string (Kd.C_below HA.out HR.out.bel) (k : Int) (by omega) (by omega)
            cases eA
            rw [rdS_at l k hkl] at hx
            simp only [Int.toNat_natCast] at hx
            have hmx : l[k].size ≤ maxLen := HSL.out _ (List.getElem_mem hkl)
            obtain ⟨s, hs⟩ : ∃ s, s = l[k] := ⟨_, rfl⟩
            rw [← hs] at hx hmx
            clear hs
            by_cases hs1 : 100 < s.size
            · go_wp2
              go_ret
              exact ⟨rfl, HR.out.bel⟩
            · have HUS : Aside0 (d.uses < 1000000) := ⟨by have := HU.out; omega⟩
              have HSX := Aside0.mk hmx
              clear hmx
              go_wp2_with fail
              refine (app_run (HR.out.below (below_alloc (Below.refl _ _) (.cells #[.string sX] 9))) HUS.out s (some ⟨wr.heap.size, 0, none⟩) 1 [sX] (strC_blk (blk_new wr _) (by decide)) HR.out.newA (by decide) (by decide) (by decide)).mono ?_
              rintro e w2 ⟨d2, rfl, hi2, hr2, -⟩
              have HU2 := Aside0.mk (appIs_uses hi2)
              have HR2 := Aside0.mk hr2
              clear hi2 hr2
              go_wp2
              go_roundg k1
              case measure => have := HQ.out; omega
              case rel => exact ⟨k + 1, d2, by go_num, ⟨by have := HQ.out; omega⟩, by omega, ⟨by have := HU.out; have := HU2.out; omega⟩, HR2⟩
          · have e : k = l.length := by omega
            subst e
            clear hkl hk
            go_wp2_with fail
            refine (Names_calls g bm d none 0 [] wr HR.out.dk HR.out.asc (by have := HR.out.good.count; omega) (Kd.C_nil _ _)).mono ?_
            rintro e w2 ⟨v, rfl, hr2, hb2⟩
            rw [namesD_all] at hr2
            obtain ⟨Av, cv, ev⟩ := Kd.R_slice hr2
            subst ev
            have HR2 := Aside0.mk (HR.out.below hb2)
            have HUP := Aside0.mk (fun (i : Nat) (h1 : i + 1 < (namesF d.files).length) => names_up HR.out.asc i h1)
            have HWA := Aside0.mk (wantK_all d fronts)
            have HND : Aside0 (∀ s ∈ namesF d.files, s.size ≤ 20) := ⟨fun s hs => by
              obtain ⟨f, hf1, rfl⟩ := List.mem_map.1 hs
              exact (HR.out.good.each f hf1).2.1⟩
            obtain ⟨all, hall⟩ : ∃ all, all = namesF d.files := ⟨_, rfl⟩
            rw [← hall] at hr2 HWA HND ⊢
            have hal : all.length ≤ 100 := by rw [hall]; unfold namesF; rw [List.length_map]; exact HR.out.good.count
            have HUP2 : Aside0 (∀ (i : Nat) (h1 : i + 1 < all.length), lessN (all[i]) (all[i + 1]) = true) := ⟨by subst hall; exact HUP.out⟩
            have HMAX : Aside0 (∀ s ∈ fronts, s.size ≤ maxLen) := ⟨HSF.out⟩
            clear HUP hall
            have HAL := Aside0.mk (Kd.R_reads' hr2).2.2
            have HALC := Aside0.mk (Kd.R_reads' hr2).2.1
            have HFR := Aside0.mk (Kd.C_below HB.out HR2.out.bel)
            clear hr2 hb2 HR HU HSL HA HB HSF
            have HBZ : Aside0 (Below w2.heap.size w2 w2) := ⟨Below.refl _ _⟩
            go_wp2_with fail
            go_loopg [8, 9] (all.length + 1) (fun kq v8 v9 w' => ∃ (i : Nat), v9 = .int .i64 i ∧ Aside0 (i + kq = all.length + 1) ∧ i ≤ all.length ∧ Aside0 (Below w2.heap.size w2 w') ∧ Aside0 (Kd.R Kd.string 9 w' w2.heap.size (fun _ => True) v8 (wantK all fronts i)))
            case atStart => exact ⟨0, rfl, ⟨by omega⟩, Nat.zero_le _, HBZ, ⟨Kd.R_nil _ _ _ _ _⟩⟩
            case round =>
              clear HBZ
              obtain ⟨i, rfl, HQ2, hi, HB2, HWK⟩ := hrel
              cases gk with
              | zero => exact absurd HQ2.out (by omega)
              | succ k1 =>
                obtain ⟨W1, hW1⟩ : ∃ W1, W1 = wr := ⟨_, rfl⟩
                subst hW1
                by_cases hin : i < all.length
                · obtain ⟨adN, eN, hxN⟩ := Kd.at_string HAL.out (i : Int) (by omega) (by omega)
                  cases eN
                  rw [rdS_at all i hin] at hxN
                  simp only [Int.toNat_natCast] at hxN
                  obtain ⟨nm, hnm⟩ : ∃ nm, nm = all[i] := ⟨_, rfl⟩
                  rw [← hnm] at hxN
                  have hns : nm.size ≤ 20 := HND.out nm (by rw [hnm]; exact List.getElem_mem hin)
                  have HWY := Aside0.mk (wantK_yes all fronts i hin)
                  have HWN := Aside0.mk (wantK_no all fronts i hin)
                  rw [← hnm] at HWY HWN
                  have HXN := Aside0.mk hxN
                  have HNM := Aside0.mk hnm
                  clear hnm hxN
                  obtain ⟨b0, hb0⟩ : ∃ b0, b0 = ((fronts.length : Int) == 0) := ⟨_, rfl⟩
                  have HB0 := Aside0.mk hb0
                  rw [hb0.symm.symm] at hb0
                  clear hb0
                  go_wp2_with fail
                  go_loopg [10, 11] (fronts.length + 1) (fun kq v10 v11 w' => ∃ (j : Nat), v11 = .int .i64 j ∧ v10 = .bool (begK fronts nm j) ∧ Aside0 (j + kq = fronts.length + 1) ∧ j ≤ fronts.length ∧ Aside0 (Below W1.heap.size W1 w'))
                  case atStart => exact ⟨0, rfl, by rw [begK_zero], ⟨by omega⟩, Nat.zero_le _, ⟨Below.refl _ _⟩⟩
                  case round =>
                    obtain ⟨j, rfl, rfl, HQ3, hj, HB3⟩ := hrel
                    have HB4 := Aside0.mk (below_step HB2.out HB3.out)
                    have hxN : wr.cell? (adN.add i) = some (.string nm) := below_cell0 HB4.out HXN.out
                    cases gk with
                    | zero => exact absurd HQ3.out (by omega)
                    | succ k2 =>
                      by_cases hjn : j < fronts.length
                      · obtain ⟨adF, eF, hxF⟩ := Kd.at_string (Kd.C_below HFR.out HB4.out) (j : Int) (by omega) (by omega)
                        cases eF
                        rw [rdS_at fronts j hjn] at hxF
                        simp only [Int.toNat_natCast] at hxF
                        have hbs := begK_succ fronts nm j hjn
                        have hmx : fronts[j].size ≤ maxLen := HMAX.out _ (List.getElem_mem hjn)
                        obtain ⟨s, hs⟩ : ∃ s, s = fronts[j] := ⟨_, rfl⟩
                        rw [← hs] at hxF hbs hmx
                        clear hs
                        unfold begB at hbs
                        have HBS := Aside0.mk hbs
                        clear hbs
                        generalize begK fronts nm j = q at HBS ⊢
                        cases q with
                        | true =>
                          go_wp2_with fail
                          go_quiet (fail)
                          go_wp2
                          go_roundg k2
                          case measure => have := HQ3.out; omega
                          case rel => exact ⟨j + 1, by go_num, by rw [HBS.out]; rfl, ⟨by have := HQ3.out; omega⟩, by omega, ⟨pw_below_drewN HB3.out _⟩⟩
                        | false =>
                          by_cases c1 : s.size ≤ nm.size
                          · have c1b : decide (s.size ≤ nm.size) = true := decide_eq_true c1
                            obtain ⟨q2, hq2⟩ : ∃ q2, q2 = ((nm.extract 0 s.size).toList == s.toList) := ⟨_, rfl⟩
                            have HQQ := Aside0.mk hq2
                            have hq2' := hq2.symm
                            clear hq2
                            go_wp2_with fail
                            go_quiet (fail)
                            go_wp2
                            go_roundg k2
                            case measure => have := HQ3.out; omega
                            case rel => exact ⟨j + 1, by go_num, by rw [HBS.out, c1b, HQQ.out]; simp, ⟨by have := HQ3.out; omega⟩, by omega, ⟨pw_below_drewN HB3.out _⟩⟩
                          · have c1b : decide (s.size ≤ nm.size) = false := decide_eq_false c1
                            go_wp2_with fail
                            go_quiet (fail)
                            go_wp2
                            go_roundg k2
                            case measure => have := HQ3.out; omega
                            case rel => exact ⟨j + 1, by go_num, by rw [HBS.out, c1b]; rfl, ⟨by have := HQ3.out; omega⟩, by omega, ⟨pw_below_drewN HB3.out _⟩⟩
                      · have e : j = fronts.length := by omega
                        subst e
                        clear hjn hj
                        have HWK5 := Aside0.mk (Kd.R_below HWK.out HB3.out)
                        have HLW := Aside0.mk (wantK_len all fronts i)
                        obtain ⟨q5, hq5⟩ : ∃ q5, q5 = begK fronts nm fronts.length := ⟨_, rfl⟩
                        rw [← hq5] at HWY HWN ⊢
                        clear hq5 HB3 HWK
                        cases q5 with
                        | true =>
                          have HI := Aside0.mk (HWY.out rfl)
                          clear HWY HWN
                          go_wp2_with (first | ((with_reducible refine gate_builtin (b := .append) (xs := #[.tmp 94, .tmp 99]) rfl ?_); at_builtin; refine Kd.R_append Kd.string (w0 := w2) w2.heap.size rfl (.tmp 94) (.tmp 99) 22 9 (.string ⟨#[]⟩) 16 rfl Try.underlying22 infoS rfl (by decide) (by omega) u8 (wantK all fronts i) nm [.string nm] (fun _ => True) (fun _ => False) rfl rfl ?aP (fun _ hk => hk.elim) (fun _ _ => trivial) HWK5.out HB4.out ?aS ?aL ?_; (case aP => exact rfl); (case aS => exact HB4.out.size); (case aL => have := HLW.out; omega); intro v1 w6 ho hb hg_ hat_; clear hg_ hat_; rw [← HI.out] at ho; have HO6 := Aside0.mk ho; have HB6 := Aside0.mk hb; clear ho hb))
                          by_cases i0 : i = 0
                          · have c0 : decide (0 < i) = false := decide_eq_false (by omega)
                            have c0i : decide (0 < (i : Int)) = false := decide_eq_false (by omega)
                            clear i0
                            go_wp2_with fail
                            go_quiet (fail)
                            go_wp2
                            go_roundg k1
                            case measure => have := HQ2.out; omega
                            case rel => exact ⟨i + 1, by go_num, ⟨by have := HQ2.out; omega⟩, by omega, ⟨pw_below_drewN HB6.out _⟩, ⟨by have h9 := Kd.R_drewN HO6.out nq; first | exact h9 | (rw [HI.out]; exact h9)⟩⟩
                          · obtain ⟨q, hq⟩ : ∃ q, i = q + 1 := ⟨i - 1, by omega⟩
                            have c0 : decide (0 < i) = true := decide_eq_true (by omega)
                            have c0i : decide (0 < (i : Int)) = true := decide_eq_true (by omega)
                            have hub := leq_facts (HUP2.out q (by omega))
                            have hqe : all[q + 1]'(by omega) = nm := by rw [HNM.out]; congr 1; omega
                            rw [hqe] at hub
                            obtain ⟨hu1, hu2⟩ := hub
                            obtain ⟨adP, eP, hxP⟩ := Kd.at_string (Kd.C_below HAL.out HB6.out) (q : Int) (by omega) (by omega)
                            cases eP
                            rw [rdS_at all q (by omega)] at hxP
                            simp only [Int.toNat_natCast] at hxP
                            generalize all[q] = pv at hxP hu1 hu2
                            have hN2 := below_cell0 HB6.out HXN.out
                            have hm1 : (i : Int) - 1 = (q : Int) := by omega
                            have hleq := leqS 9 nm pv
                            have hw1 : IntKind.i64.wrap (q : Int) = (q : Int) := by rw [IntKind.wrap_i64]; omega
                            have hql : (q : Int) < (all.length : Int) := by omega
                            clear hq hqe i0
                            go_wp2_with fail
                            go_quiet (fail)
                            go_wp2
                            go_roundg k1
                            case measure => have := HQ2.out; omega
                            case rel => exact ⟨i + 1, by go_num, ⟨by have := HQ2.out; omega⟩, by omega, ⟨pw_below_drewN HB6.out _⟩, ⟨by have h9 := Kd.R_drewN HO6.out nq; first | exact h9 | (rw [HI.out]; exact h9)⟩⟩
                        | false =>
                          have HI := Aside0.mk (HWN.out rfl)
                          clear HWY HWN
                          by_cases i0 : i = 0
                          · have c0 : decide (0 < i) = false := decide_eq_false (by omega)
                            have c0i : decide (0 < (i : Int)) = false := decide_eq_false (by omega)
                            clear i0
                            go_wp2_with fail
                            go_quiet (fail)
                            go_wp2
                            go_roundg k1
                            case measure => have := HQ2.out; omega
                            case rel => exact ⟨i + 1, by go_num, ⟨by have := HQ2.out; omega⟩, by omega, ⟨pw_below_drewN HB4.out _⟩, ⟨by have h9 := Kd.R_drewN HWK5.out nq; first | exact h9 | (rw [HI.out]; exact h9)⟩⟩
                          · obtain ⟨q, hq⟩ : ∃ q, i = q + 1 := ⟨i - 1, by omega⟩
                            have c0 : decide (0 < i) = true := decide_eq_true (by omega)
                            have c0i : decide (0 < (i : Int)) = true := decide_eq_true (by omega)
                            have hub := leq_facts (HUP2.out q (by omega))
                            have hqe : all[q + 1]'(by omega) = nm := by rw [HNM.out]; congr 1; omega
                            rw [hqe] at hub
                            obtain ⟨hu1, hu2⟩ := hub
                            obtain ⟨adP, eP, hxP⟩ := Kd.at_string (Kd.C_below HAL.out HB4.out) (q : Int) (by omega) (by omega)
                            cases eP
                            rw [rdS_at all q (by omega)] at hxP
                            simp only [Int.toNat_natCast] at hxP
                            generalize all[q] = pv at hxP hu1 hu2
                            have hN2 := below_cell0 HB4.out HXN.out
                            have hm1 : (i : Int) - 1 = (q : Int) := by omega
                            have hleq := leqS 9 nm pv
                            have hw1 : IntKind.i64.wrap (q : Int) = (q : Int) := by rw [IntKind.wrap_i64]; omega
                            have hql : (q : Int) < (all.length : Int) := by omega
                            clear hq hqe i0
                            go_wp2_with fail
                            go_quiet (fail)
                            go_wp2
                            go_roundg k1
                            case measure => have := HQ2.out; omega
                            case rel => exact ⟨i + 1, by go_num, ⟨by have := HQ2.out; omega⟩, by omega, ⟨pw_below_drewN HB4.out _⟩, ⟨by have h9 := Kd.R_drewN HWK5.out nq; first | exact h9 | (rw [HI.out]; exact h9)⟩⟩
                · have e : i = all.length := by omega
                  subst e
                  clear hin hi
                  rw [HWA.out] at HWK
                  have HRZ := Aside0.mk (HR2.out.below HB2.out)
                  have HFZ := Aside0.mk (Kd.C_below HFR.out HB2.out)
                  obtain ⟨A8, c8, e8⟩ := Kd.R_slice HWK.out
                  subst e8
                  have hnl : (namesD d fronts).length ≤ 1000 := by have h9 := wantK_len all fronts all.length; rw [HWA.out] at h9; omega
                  obtain ⟨KS, hKS⟩ := same_at (namesD d fronts) hnl
                  have HKS := Aside0.mk (hKS KS (Nat.le_refl _))
                  clear hKS hnl
                  go_wp2_with fail
                  refine (Names_calls g bm d B cb fronts _ HRZ.out.dk HRZ.out.asc (by have := HRZ.out.good.count; omega) HFZ.out).mono ?_
                  rintro e w5 ⟨v5, rfl, hr5, hb5⟩
                  obtain ⟨A5, c5, e5⟩ := Kd.R_slice hr5
                  subst e5
                  have HR5 := Aside0.mk hr5
                  have HW5 := Aside0.mk (Kd.R_below HWK.out hb5)
                  have HB5 := Aside0.mk (below_step HRZ.out.bel hb5)
                  clear hr5 hb5
                  go_wp2_with fail
                  refine (affluxref05_Same.calls KS A5 c5 (namesD d fronts) A8 c8 (namesD d fronts) true w5 (Kd.R_reads' HR5.out).2.2 (Kd.R_reads' HR5.out).2.1 (Kd.R_reads' HW5.out).2.2 (Kd.R_reads' HW5.out).2.1 HKS.out).mono ?_
                  rintro e w6 ⟨rfl, ⟨n6, hw6⟩⟩
                  have HB6 : Aside0 (Below w.heap.size w w6) := ⟨by rw [hw6]; exact pw_below_drewN HB5.out n6⟩
                  clear hw6
                  go_wp2
                  go_ret
                  exact ⟨rfl, HB6.out⟩
end Go.Proofs.Ytihlacambdfmfaa.PK
/- disk: the law's own model of a disk, in memory: its files in a row, by their names. -/
namespace Go.Proofs.Ytihlacambdfmfaa.PK
open Go.RowKit Go.Proofs.YtihlacambdfmfaaW.PrintWords Go.Proofs.YtihlacambdfmfaaW.PrintLast Go.Proofs.YtihlacambdfmfaaW.PrintMore
open Go.Maps
open Go.Proofs.Ytihlacambdfmfaa.PR
/-- A file within the model's row: its name, its bytes, how many are kept (its block is the disk's alone). -/
def kF : Kd Fl := Kd.iso (Kd.pair Kd.string (Kd.pair Kd.string (Kd.int .i64))) (fun x : Fl => (x.name, x.data, x.kept))
def zF : Fl := ⟨⟨#[]⟩, 0, ⟨#[]⟩, 0⟩
theorem kF_open {w : World} {x : Fl} {cs : List Value} (h : kF.K w x cs) : cs = [.string x.name, .string x.data, .int .i64 x.kept] := by
  obtain ⟨_, _, rfl, rfl, ⟨_, _, rfl, rfl, rfl⟩⟩ := h
  rfl
theorem kF_mk (w : World) (x : Fl) : kF.K w x [.string x.name, .string x.data, .int .i64 x.kept] := ⟨[.string x.name], [.string x.data, .int .i64 x.kept], rfl, rfl, ⟨[.string x.data], [.int .i64 x.kept], rfl, rfl, rfl⟩⟩
theorem kF_mkM (w : World) (base : Nat) (ok : Nat → Prop) (x : Fl) : kF.M w base ok x [.string x.name, .string x.data, .int .i64 x.kept] := ⟨[.string x.name], [.string x.data, .int .i64 x.kept], rfl, rfl, ⟨[.string x.data], [.int .i64 x.kept], rfl, rfl, rfl⟩⟩
def rdF (xs : List Fl) (i : Int) : Fl := xs.getD i.toNat zF
theorem rdF_at (xs : List Fl) (i : Nat) (h : i < xs.length) : rdF xs (i : Int) = xs[i] := by simp [rdF, List.getD, h]
theorem at_F {w : World} {A : Option Addr} {n : Nat} {xs : List Fl} (h : Kd.C kF w A n xs) (i : Int) (h0 : 0 ≤ i) (h1 : i < n) : ∃ ad, A = some ad ∧ w.cell? (ad.add (i.toNat * 3)) = some (.string (rdF xs i).name) ∧ w.cell? ⟨(ad.add (i.toNat * 3)).block, (ad.add (i.toNat * 3)).off + 1, none⟩ = some (.string (rdF xs i).data) ∧ w.cell? ⟨(ad.add (i.toNat * 3)).block, (ad.add (i.toNat * 3)).off + 2, none⟩ = some (.int .i64 (rdF xs i).kept) := by
  obtain ⟨ad, c, e, _, hK, hc0⟩ := Kd.C_get h zF i h0 h1
  have hc : ∀ j u, c[j]? = some u → w.cell? (ad.add (i.toNat * 3 + j)) = some u := hc0
  have hcs := kF_open hK
  subst hcs
  exact ⟨ad, e, hc 0 _ rfl, by rw [← add_field _ _ 1 (by omega)]; exact hc 1 _ rfl, by rw [← add_field _ _ 2 (by omega)]; exact hc 2 _ rfl⟩
/-- Rows of files that differ in the disk's blocks alone are one row. -/
theorem R_as {e : Nat} {w : World} {base : Nat} {ok : Nat → Prop} {v : Value} {xs ys : List Fl} (h : Kd.R kF e w base ok v xs) (hs : xs.map (fun x => (x.name, x.data, x.kept)) = ys.map (fun x => (x.name, x.data, x.kept))) : Kd.R kF e w base ok v ys := by
  have hl : xs.length = ys.length := by have := congrArg List.length hs; rwa [List.length_map, List.length_map] at this
  obtain ⟨h0, inner, ho, hr⟩ := h
  refine ⟨h0, inner, by rw [← hl]; exact ho, by rw [← hl]; exact hr.1, fun j p hj => ?_⟩
  have hjl : j < ys.length := (List.getElem?_eq_some_iff.1 hj).1
  have hj2 : xs[j]? = some (xs[j]'(by omega)) := List.getElem?_eq_getElem (by omega)
  have h2 := hr.2 j _ hj2
  have h3 := congrArg (fun l => l[j]?) hs
  simp only [List.getElem?_map, hj, hj2, Option.map_some] at h3
  injection h3 with h3
  show (Kd.pair Kd.string (Kd.pair Kd.string (Kd.int .i64))).M _ _ _ (p.name, p.data, p.kept) _
  rw [← h3]
  exact h2
def mdCells (A : Option Addr) (c : Nat) (d : DS) : Array Value := #[.int .i64 d.room, .slice A d.files.length c, .bool d.off, .bool d.armed, .int .i64 d.left, .int .i64 d.uses]
/-- A model of a disk's state, at block m; its files' row: A, c. -/
structure Md (w : World) (base m : Nat) (A : Option Addr) (c : Nat) (d : DS) : Prop where
  blk : w.heap[m]? = some (.cells (mdCells A c d) 44 (0, 0))
  row : Kd.R kF 52 w base (fun _ => True) (.slice A d.files.length c) d.files
  ge : base ≤ m
/-- A model's blocks. -/
def ft (m : Nat) (A : Option Addr) (c : Nat) (d : DS) (k : Nat) : Prop := k = m ∨ (Value.slice A d.files.length c).ownBlock = some k
theorem Md.lt {w : World} {base m : Nat} {A : Option Addr} {c : Nat} {d : DS} (h : Md w base m A c d) : ∀ k, ft m A c d k → k < w.heap.size := by
  rintro k (rfl | h1)
  · exact blk_lt h.blk
  · exact Kd.R_lt h.row k h1
theorem Md.base_le {w : World} {base m : Nat} {A : Option Addr} {c : Nat} {d : DS} (h : Md w base m A c d) : ∀ k, ft m A c d k → base ≤ k := by
  rintro k (rfl | h1)
  · exact h.ge
  · exact Kd.R_base h.row k h1
/-- The row's block isn't the model's. -/
theorem Md.own_ne {w : World} {base m : Nat} {A : Option Addr} {c : Nat} {d : DS} (h : Md w base m A c d) : (Value.slice A d.files.length c).ownBlock ≠ some m := by
  intro e
  obtain ⟨cells, hc⟩ := Kd.R_typed h.row m e
  rw [h.blk] at hc
  injection hc with hc
  injection hc with _ hc
  exact absurd hc (by decide)
theorem own_only {e : Nat} {w : World} {base : Nat} {ok : Nat → Prop} {v : Value} {xs : List Fl} (h : Kd.R kF e w base ok v xs) : Kd.R kF e w base (fun k => v.ownBlock = some k) v xs := by
  obtain ⟨_, inner, ho, hr⟩ := h
  exact ⟨fun k hk => hk, inner, ho, hr.1, fun j p hj => hr.2 j p hj⟩
theorem Md.same {w w1 : World} {base m : Nat} {A : Option Addr} {c : Nat} {d : DS} (h : Md w base m A c d) (hk : ∀ k, ft m A c d k → w1.heap[k]? = w.heap[k]?) : Md w1 base m A c d := by
  refine ⟨(hk m (.inl rfl)).trans h.blk, ?_, h.ge⟩
  exact Kd.R_mono (Kd.R_step (own_only h.row) (w1 := w1) (fun k hok _ => hk k (.inr hok))) (fun _ _ => trivial)
theorem Md.cell {w : World} {base m : Nat} {A : Option Addr} {c : Nat} {d : DS} (h : Md w base m A c d) (i : Nat) : w.cell? ⟨m, i, none⟩ = (mdCells A c d)[i]? := blk_cell h.blk i
theorem Md.frozen {w : World} {base m : Nat} {A : Option Addr} {c : Nat} {d : DS} (h : Md w base m A c d) (i : Nat) : w.frozen? ⟨m, i, none⟩ = false := blk_frozen h.blk i
/-- The disk's blocks are none of the model's. -/
theorem apart {w : World} {g b base m : Nat} {A : Option Addr} {c : Nat} {d dm : DS} (h : Dk w g b d) (k : Md w base m A c dm) : ∀ j, foot g b d j → ¬ ft m A c dm j := by
  intro j hf hm
  have ht : (∃ cells, w.heap[j]? = some (.cells cells 44 (0, 0))) ∨ ∃ cells, w.heap[j]? = some (.cells cells 52 (0, 0)) := by
    rcases hm with rfl | hm
    · exact .inl ⟨_, k.blk⟩
    · exact .inr (Kd.R_typed k.row j hm)
  rcases hf with rfl | rfl | ⟨f, hf, rfl⟩
  · rw [h.blk] at ht
    rcases ht with ⟨cs, e⟩ | ⟨cs, e⟩ <;> (injection e with e; injection e with _ e; exact absurd e (by decide))
  · obtain ⟨es, clock, hb, _⟩ := h.own
    rw [hb] at ht
    rcases ht with ⟨cs, e⟩ | ⟨cs, e⟩ <;> cases e
  · rw [h.file f hf] at ht
    rcases ht with ⟨cs, e⟩ | ⟨cs, e⟩ <;> (injection e with e; injection e with _ e; exact absurd e (by decide))
end Go.Proofs.Ytihlacambdfmfaa.PK
/- disk: the law's own model: find, used, lays. -/
namespace Go.Proofs.Ytihlacambdfmfaa.PK
open Go.RowKit Go.Proofs.YtihlacambdfmfaaW.PrintWords Go.Proofs.YtihlacambdfmfaaW.PrintLast Go.Proofs.YtihlacambdfmfaaW.PrintMore
open Go.Maps
open Go.Proofs.Ytihlacambdfmfaa.PR
def FindIs (fs : List Fl) (name : ByteArray) (i : Int) : Prop := (i = -1 ∧ getF fs name = none) ∨ ∃ (k : Nat) (h : k < fs.length), i = (k : Int) ∧ getF fs name = some fs[k]
theorem find_none {fs : List Fl} {name : ByteArray} (h : ∀ j (hj : j < fs.length), fs[j].name ≠ name) : FindIs fs name (-1) := by
  refine .inl ⟨rfl, ?_⟩
  unfold getF
  rw [List.find?_eq_none]
  intro x hx
  obtain ⟨j, hj, rfl⟩ := List.getElem_of_mem hx
  rw [sameN_ne.2 (h j hj)]
  decide
theorem find_some {fs : List Fl} {name : ByteArray} {k : Nat} (hk : k < fs.length) (hn : fs[k].name = name) (h : ∀ j (hj : j < fs.length), j < k → fs[j].name ≠ name) : FindIs fs name (k : Int) := by
  refine .inr ⟨k, hk, rfl, ?_⟩
  unfold getF
  rw [List.find?_eq_some_iff_getElem]
  exact ⟨by rw [sameN_iff]; exact hn, k, hk, rfl, fun j hj => by rw [sameN_ne.2 (h j (by omega) hj)]; rfl⟩
theorem toList_eq_iff {a b : ByteArray} : a.toList = b.toList ↔ a = b := by
  rw [ByteArray.toList_eq, ByteArray.toList_eq]
  refine ⟨fun h => ?_, fun h => by rw [h]⟩
  cases a; cases b
  simpa using h
set_option maxHeartbeats 1000000 in
set_option maxRecDepth 100000 in
theorem find_calls (base m : Nat) (A : Option Addr) (c : Nat) (d : DS) (name : ByteArray) (w : World) (h : Md w base m A c d) :
    Calls Try.prog 20 #[.pointer (some ⟨m, 0, none⟩), .string name] w fun e w' => ∃ i, e = .returned (.int .i64 i) ∧ FindIs d.files name i ∧ w = w' := by
  have h1 : w.cell? ⟨m, 1, none⟩ = some (.slice A d.files.length c) := h.cell 1
  have HC := Aside0.mk (Kd.R_reads' h.row).2.2
  have hmx := Kd.C_max HC.out
  clear h
  obtain ⟨fs, hfs⟩ : ∃ fs, fs = d.files := ⟨_, rfl⟩
  rw [← hfs] at h1 HC hmx ⊢
  clear hfs
  go_enter Try.func20, Try.ntmps20
  go_wp2_with fail
  go_loopg [5] (fs.length + 1) (fun kq v5 w' => ∃ (k : Nat), v5 = .int .i64 k ∧ Aside0 (k + kq = fs.length + 1) ∧ k ≤ fs.length ∧ Aside0 (∀ j (hj : j < fs.length), j < k → fs[j].name ≠ name) ∧ w' = w)
  case atStart => exact ⟨0, rfl, ⟨by omega⟩, Nat.zero_le _, ⟨fun j _ hj => by omega⟩, rfl⟩
  case round =>
    obtain ⟨k, rfl, HQ, hk, HN, rfl⟩ := hrel
    cases gk with
    | zero => exact absurd HQ.out (by omega)
    | succ k1 =>
      by_cases hkl : k < fs.length
      · obtain ⟨ad, eA, hx0, hx1, hx2⟩ := at_F HC.out (k : Int) (by omega) (by omega)
        cases eA
        rw [rdF_at fs k hkl] at hx0
        simp only [Int.toNat_natCast] at hx0
        clear hx1 hx2
        by_cases hs : fs[k].name = name
        · have HF := Aside0.mk (find_some hkl hs HN.out)
          have hq : (fs[k].name.toList == name.toList) = true := by rw [hs]; simp
          clear hs
          generalize fs[k].name = nm at hx0 hq
          go_wp2
          go_ret
          exact ⟨_, rfl, HF.out, rfl⟩
        · have hq : (fs[k].name.toList == name.toList) = false := beq_eq_false_iff_ne.2 (fun e => hs (toList_eq_iff.1 e))
          have HN2 : Aside0 (∀ j (hj : j < fs.length), j < k + 1 → fs[j].name ≠ name) := ⟨fun j hj hj2 => by
            by_cases e : j = k
            · subst e; exact hs
            · exact HN.out j hj (by omega)⟩
          clear hs
          generalize fs[k].name = nm at hx0 hq
          go_wp2
          go_roundg k1
          case measure => have := HQ.out; omega
          case rel => exact ⟨k + 1, by go_num, ⟨by have := HQ.out; omega⟩, by omega, HN2, rfl⟩
      · have HF := Aside0.mk (find_none (name := name) (fun j hj => HN.out j hj (by omega)))
        go_wp2
        go_ret
        exact ⟨_, rfl, HF.out, rfl⟩
def usedT (fs : List Fl) (k : Nat) : Nat := usedF (fs.take k)
theorem usedT_succ (fs : List Fl) (k : Nat) (h : k < fs.length) : usedT fs (k + 1) = usedT fs k + fs[k].data.size := by
  unfold usedT usedF
  rw [List.take_succ_eq_append_getElem h, List.map_append, List.sum_append]
  simp
theorem usedT_le (fs : List Fl) (k : Nat) : usedT fs k ≤ usedF fs := by
  have e : usedF fs = usedF (fs.take k) + usedF (fs.drop k) := by
    unfold usedF
    rw [← List.sum_append, ← List.map_append, List.take_append_drop]
  unfold usedT
  omega
set_option maxHeartbeats 1000000 in
set_option maxRecDepth 100000 in
theorem used_calls (base m : Nat) (A : Option Addr) (c : Nat) (d : DS) (w : World) (h : Md w base m A c d) (hu : usedF d.files ≤ 4611686018427387904) :
    Calls Try.prog 51 #[.pointer (some ⟨m, 0, none⟩)] w fun e w' => e = .returned (.int .i64 (usedF d.files : Int)) ∧ w = w' := by
  have h1 : w.cell? ⟨m, 1, none⟩ = some (.slice A d.files.length c) := h.cell 1
  have HC := Aside0.mk (Kd.R_reads' h.row).2.2
  have hmx := Kd.C_max HC.out
  clear h
  obtain ⟨fs, hfs⟩ : ∃ fs, fs = d.files := ⟨_, rfl⟩
  rw [← hfs] at h1 HC hmx hu ⊢
  have HU := Aside0.mk hu
  clear hfs hu
  go_enter Try.func51, Try.ntmps51
  go_wp2_with fail
  go_loopg [3, 4] (fs.length + 1) (fun kq v3 v4 w' => ∃ (k n : Nat), v4 = .int .i64 k ∧ v3 = .int .i64 n ∧ Aside0 (n = usedT fs k) ∧ Aside0 (k + kq = fs.length + 1) ∧ k ≤ fs.length ∧ w' = w)
  case atStart => exact ⟨0, 0, rfl, rfl, ⟨rfl⟩, ⟨by omega⟩, Nat.zero_le _, rfl⟩
  case round =>
    obtain ⟨k, n, rfl, rfl, HN, HQ, hk, rfl⟩ := hrel
    cases gk with
    | zero => exact absurd HQ.out (by omega)
    | succ k1 =>
      by_cases hkl : k < fs.length
      · obtain ⟨ad, eA, hx0, hx1, hx2⟩ := at_F HC.out (k : Int) (by omega) (by omega)
        cases eA
        rw [rdF_at fs k hkl] at hx1
        simp only [Int.toNat_natCast] at hx1
        clear hx0 hx2
        have h2 := usedT_succ fs k hkl
        have h3 := usedT_le fs (k + 1)
        have h4 := HU.out
        rw [← HN.out] at h2
        rw [h2] at h3
        have HN2 : Aside0 (n + fs[k].data.size = usedT fs (k + 1)) := ⟨h2.symm⟩
        have hsm : n + fs[k].data.size ≤ 4611686018427387904 := by omega
        clear h2 h3 h4
        generalize fs[k].data = dt at hx1 hsm HN2
        go_wp2
        go_roundg k1
        case measure => have := HQ.out; omega
        case rel => exact ⟨k + 1, n + dt.size, by go_num, by go_num, HN2, ⟨by have := HQ.out; omega⟩, by omega, rfl⟩
      · have HE : Aside0 (n = usedF fs) := ⟨by
          have e : k = fs.length := by omega
          rw [HN.out, e]; unfold usedT; rw [List.take_length]⟩
        go_wp2
        go_ret
        exact ⟨by rw [HE.out]; rfl, rfl⟩
theorem FindIs.old {fs : List Fl} {name : ByteArray} {i : Int} (h : FindIs fs name i) : (i < 0 ∧ (oldF fs name).1.size = 0 ∧ getF fs name = none ∧ i = -1) ∨ ∃ (k : Nat) (hk : k < fs.length), i = (k : Int) ∧ (oldF fs name).1 = fs[k].data ∧ getF fs name ≠ none := by
  rcases h with ⟨rfl, hg⟩ | ⟨k, hk, rfl, hg⟩
  · refine .inl ⟨by omega, ?_, hg, rfl⟩
    unfold oldF
    rw [hg]
    rfl
  · refine .inr ⟨k, hk, rfl, ?_, by rw [hg]; simp⟩
    unfold oldF
    rw [hg]
set_option maxHeartbeats 2000000 in
set_option maxRecDepth 100000 in
theorem lays_run (base m : Nat) (A : Option Addr) (c : Nat) (d : DS) (i size has : Int) (n : Nat) (r : Int) (w : World) (h : Md w base m A c d) (hg : Good d) (hz0 : 0 ≤ size) (hz1 : size ≤ 4611686018427387904) (hh : 0 ≤ has ∧ has ≤ 1048576) (hn : n = d.files.length) (hi : (i = -1 ∧ has = 0) ∨ ∃ (k : Nat) (hk : k < d.files.length), i = (k : Int) ∧ has = (d.files[k].data.size : Int))
    (hr : r = if 1048576 < size ∨ (i < 0 ∧ 100 ≤ n) then 5 else if freeD d < size - has then 6 else 0) :
    Calls Try.prog 24 #[.pointer (some ⟨m, 0, none⟩), .int .i64 i, .int .i64 size] w fun e w' => e = .returned (.int .i64 r) ∧ ∃ q, w' = w.drewN q := by
  have h0 : w.cell? ⟨m, 0, none⟩ = some (.int .i64 d.room) := h.cell 0
  have h1 : w.cell? ⟨m, 1, none⟩ = some (.slice A d.files.length c) := h.cell 1
  have HC := Aside0.mk (Kd.R_reads' h.row).2.2
  have HUC : Aside0 (∀ q, Calls Try.prog 51 #[.pointer (some ⟨m, 0, none⟩)] (w.drewN q) fun e w' => e = .returned (.int .i64 (usedF d.files : Int)) ∧ ∃ q2, w' = w.drewN q2) := ⟨fun q => (used_calls base m A c d (w.drewN q) (h.same fun k hk => (pw_below_drewN (Below.refl w.heap.size w) q).block k (h.lt k hk)) (by have := hg.used; omega)).mono (fun e w' hw => ⟨hw.1, q, hw.2.symm⟩)⟩
  have hroom0 := hg.room0
  have hroom1 := hg.room1
  have hus := hg.used
  have hfr : freeD d = d.room - (usedF d.files : Int) := rfl
  rw [hfr] at hr
  clear hfr
  obtain ⟨u, hu⟩ : ∃ u, u = usedF d.files := ⟨_, rfl⟩
  rw [← hu] at HUC hus hr
  have hw2 : IntKind.i64.wrap (d.room - (u : Int)) = d.room - (u : Int) := by rw [IntKind.wrap_i64]; omega
  have hw1 : IntKind.i64.wrap (size - has) = size - has := by rw [IntKind.wrap_i64]; omega
  generalize d.room = room at h0 hroom0 hroom1 hr hw2
  have HZ := Aside0.mk hz1
  have HX := Aside0.mk (And.intro hus hh)
  have HR0 := Aside0.mk (And.intro hroom0 hroom1)
  have HR := Aside0.mk hr
  clear hr hz1 hus hh hroom0 hroom1 hu
  rcases hi with ⟨rfl, rfl⟩ | ⟨k, hk, rfl, hhs⟩
  · rw [← hn] at h1
    clear hn h hg HC
    rw [Int.sub_zero] at hw1
    by_cases hs : 1048576 < size
    · have HE : Aside0 (r = 5) := ⟨by rw [HR.out, if_pos (by omega)]⟩
      go_enter Try.func24, Try.ntmps24
      go_wp2
      go_ret
      exact ⟨by rw [HE.out]; rfl, 0, rfl⟩
    · by_cases h100 : 100 ≤ n
      · have HE : Aside0 (r = 5) := ⟨by rw [HR.out, if_pos (by omega)]⟩
        go_enter Try.func24, Try.ntmps24
        go_wp2
        go_ret
        exact ⟨by rw [HE.out]; rfl, 0, rfl⟩
      · have HSS := Aside0.mk hz0
        by_cases hf : room - (u : Int) < size
        · have hfd : decide (room - (u : Int) < size) = true := decide_eq_true hf
          have HE : Aside0 (r = 6) := ⟨by rw [HR.out, if_neg (by omega), if_pos (by omega)]⟩
          clear hf
          go_enter Try.func24, Try.ntmps24
          go_wp2_with fail
          go_quiet (first | (go_at_call 51; (refine (HUC.out _).mono ?_); rintro e w' ⟨rfl, ⟨nd, rfl⟩⟩; (try first | exact ⟨rfl, _, rfl⟩ | exact ⟨rfl, _, World.drewN_drewN _ _ _⟩)))
          go_wp2
          go_ret
          exact ⟨by rw [HE.out]; rfl, _, rfl⟩
        · have hfd : decide (room - (u : Int) < size) = false := decide_eq_false hf
          have HE : Aside0 (r = 0) := ⟨by rw [HR.out, if_neg (by omega), if_neg (by omega)]⟩
          clear hf
          go_enter Try.func24, Try.ntmps24
          go_wp2_with fail
          go_quiet (first | (go_at_call 51; (refine (HUC.out _).mono ?_); rintro e w' ⟨rfl, ⟨nd, rfl⟩⟩; (try first | exact ⟨rfl, _, rfl⟩ | exact ⟨rfl, _, World.drewN_drewN _ _ _⟩)))
          go_wp2
          go_ret
          exact ⟨by rw [HE.out]; rfl, _, rfl⟩
  · obtain ⟨ad, eA, hx0, hx1, hx2⟩ := at_F HC.out (k : Int) (by omega) (by omega)
    cases eA
    rw [rdF_at d.files k hk] at hx1
    simp only [Int.toNat_natCast] at hx1
    clear hx0 hx2 h hg HC
    rw [← hn] at h1 hk
    clear hn
    generalize hdt : d.files[k].data = dt at hx1 hhs
    subst hhs
    clear hdt
    by_cases hs : 1048576 < size
    · have HE : Aside0 (r = 5) := ⟨by rw [HR.out, if_pos (by omega)]⟩
      go_enter Try.func24, Try.ntmps24
      go_wp2
      go_ret
      exact ⟨by rw [HE.out]; rfl, 0, rfl⟩
    · have HSS := Aside0.mk hz0
      by_cases hf : room - (u : Int) < size - (dt.size : Int)
      · have hfd : decide (room - (u : Int) < size - (dt.size : Int)) = true := decide_eq_true hf
        have HE : Aside0 (r = 6) := ⟨by rw [HR.out, if_neg (by omega), if_pos (by omega)]⟩
        clear hf
        go_enter Try.func24, Try.ntmps24
        go_wp2_with fail
        go_quiet (first | (go_at_call 51; (refine (HUC.out _).mono ?_); rintro e w' ⟨rfl, ⟨nd, rfl⟩⟩; (try first | exact ⟨rfl, _, rfl⟩ | exact ⟨rfl, _, World.drewN_drewN _ _ _⟩)))
        go_wp2
        go_ret
        exact ⟨by rw [HE.out]; rfl, _, rfl⟩
      · have hfd : decide (room - (u : Int) < size - (dt.size : Int)) = false := decide_eq_false hf
        have HE : Aside0 (r = 0) := ⟨by rw [HR.out, if_neg (by omega), if_neg (by omega)]⟩
        clear hf
        go_enter Try.func24, Try.ntmps24
        go_wp2_with fail
        go_quiet (first | (go_at_call 51; (refine (HUC.out _).mono ?_); rintro e w' ⟨rfl, ⟨nd, rfl⟩⟩; (try first | exact ⟨rfl, _, rfl⟩ | exact ⟨rfl, _, World.drewN_drewN _ _ _⟩)))
        go_wp2
        go_ret
        exact ⟨by rw [HE.out]; rfl, _, rfl⟩
end Go.Proofs.Ytihlacambdfmfaa.PK
/- disk: the law's own model: put, drop. -/
namespace Go.Proofs.Ytihlacambdfmfaa.PK
open Go.RowKit Go.Proofs.YtihlacambdfmfaaW.PrintWords Go.Proofs.YtihlacambdfmfaaW.PrintLast Go.Proofs.YtihlacambdfmfaaW.PrintMore
open Go.Maps
open Go.Proofs.Ytihlacambdfmfaa.PR
/-- From d to d1 the model's own blocks alone turn; new ones may come. -/
structure MTurn (w : World) (base m : Nat) (A : Option Addr) (c : Nat) (d : DS) (A1 : Option Addr) (c1 : Nat) (d1 : DS) (w1 : World) : Prop where
  md : Md w1 base m A1 c1 d1
  kp : Kp (ft m A c d) w w1
  new : ∀ k, ft m A1 c1 d1 k → ft m A c d k ∨ w.heap.size ≤ k
theorem MTurn.trans {w w1 w2 : World} {base m : Nat} {A A1 A2 : Option Addr} {c c1 c2 : Nat} {d d1 d2 : DS} (h : MTurn w base m A c d A1 c1 d1 w1) (k : MTurn w1 base m A1 c1 d1 A2 c2 d2 w2) : MTurn w base m A c d A2 c2 d2 w2 := by
  refine ⟨k.md, ⟨k.kp.os.trans h.kp.os, k.kp.tape.trans h.kp.tape, k.kp.output.trans h.kp.output, Nat.le_trans h.kp.size k.kp.size, fun i hi hn => (k.kp.block i (Nat.lt_of_lt_of_le hi h.kp.size) ?_).trans (h.kp.block i hi hn)⟩, fun i hi => ?_⟩
  · intro hf
    rcases h.new i hf with h1 | h1
    · exact hn h1
    · omega
  · rcases k.new i hi with h1 | h1
    · exact h.new i h1
    · exact .inr (Nat.le_trans h.kp.size h1)
theorem MTurn.below {w w1 : World} {base m : Nat} {A : Option Addr} {c : Nat} {d : DS} (h : Md w base m A c d) (hb : Below w.heap.size w w1) : MTurn w base m A c d A c d w1 := ⟨h.same fun k hk => hb.block k (h.lt k hk), Kp.of_below hb, fun _ h => .inl h⟩
/-- One of the model's own cells is set. -/
theorem MTurn.set {w : World} {base m : Nat} {A : Option Addr} {c : Nat} {d d1 : DS} (h : Md w base m A c d) (i : Nat) (v : Value) (hv : (mdCells A c d).setIfInBounds i v = mdCells A c d1) (hf : d1.files = d.files) : MTurn w base m A c d A c d1 (w.setCell ⟨m, i, none⟩ v) := by
  refine ⟨⟨by rw [blk_set h.blk i v, hv], ?_, h.ge⟩, Kp.of_set (.inl rfl), fun k hk => .inl (by unfold ft at hk ⊢; rw [hf] at hk; exact hk)⟩
  rw [hf]
  exact Kd.R_mono (Kd.R_step (own_only h.row) (w1 := w.setCell ⟨m, i, none⟩ v) (fun k hok _ => Below.heap_setCell w ⟨m, i, none⟩ v k (fun e => h.own_ne (by rw [e] at hok; exact hok)))) (fun _ _ => trivial)
/-- Another row is laid. -/
theorem MTurn.row {w w1 : World} {base m : Nat} {A A1 : Option Addr} {c c1 : Nat} {d : DS} {fs : List Fl} (h : Md w base m A c d) (hb : Below w.heap.size w w1) (hr : Kd.R kF 52 w1 w.heap.size (fun _ => True) (.slice A1 fs.length c1) fs) (hbs : base ≤ w.heap.size) : MTurn w base m A c d A1 c1 { d with files := fs } (w1.setCell ⟨m, 1, none⟩ (.slice A1 fs.length c1)) := by
  have hm : m < w.heap.size := blk_lt h.blk
  have hbm : w1.heap[m]? = some (.cells (mdCells A c d) 44 (0, 0)) := (hb.block m hm).trans h.blk
  have hne : ∀ k, (Value.slice A1 fs.length c1).ownBlock = some k → k ≠ m := fun k hk e => by
    have := Kd.R_base hr k hk
    omega
  refine ⟨⟨?_, ?_, h.ge⟩, ?_, fun k hk => ?_⟩
  · rw [blk_set hbm 1 _]
    rfl
  · exact Kd.R_lower (Kd.R_mono (Kd.R_step (own_only hr) (w1 := w1.setCell ⟨m, 1, none⟩ (.slice A1 fs.length c1)) (fun k hok _ => Below.heap_setCell w1 ⟨m, 1, none⟩ _ k (hne k hok))) (fun _ _ => trivial)) hbs
  · exact (Kp.of_below hb).trans (Kp.of_set (.inl rfl))
  · rcases hk with rfl | hk
    · exact .inl (.inl rfl)
    · exact .inr (Kd.R_base hr k hk)
theorem infoF : (Try.prog.info? 52).map (fun i => (i.zero, i.size, i.bytes)) = some (some (.agg #[(.string ⟨#[]⟩), (.string ⟨#[]⟩), (.int .i64 0)]), 3, 40) := by kernel_rfl
def stepP (x : Fl) (s : List Fl × Bool) (y : Fl) : List Fl × Bool := if sameN y.name x.name = true then s else if s.2 = false ∧ lessN x.name y.name = true then (s.1 ++ [x] ++ [y], true) else (s.1 ++ [y], s.2)
def accP (x : Fl) (fs : List Fl) (k : Nat) : List Fl × Bool := (fs.take k).foldl (stepP x) ([], false)
theorem accP_succ (x : Fl) (fs : List Fl) (k : Nat) (h : k < fs.length) : accP x fs (k + 1) = stepP x (accP x fs k) fs[k] := by
  unfold accP
  rw [List.take_succ_eq_append_getElem h, List.foldl_append]
  rfl
theorem accP_done (x : Fl) : ∀ (l acc : List Fl), l.foldl (stepP x) (acc, true) = (acc ++ delF l x.name, true)
  | [], acc => by simp [delF]
  | y :: r, acc => by
    rw [List.foldl_cons]
    unfold stepP delF
    rw [List.filter_cons]
    by_cases h : sameN y.name x.name = true
    · rw [if_pos h, h]
      exact accP_done x r acc
    · rw [if_neg h, if_neg (fun h2 => by cases h2.1)]
      rw [Bool.not_eq_true] at h
      rw [h]
      have := accP_done x r (acc ++ [y])
      unfold stepP delF at this
      rw [this]
      simp
theorem accP_put (x : Fl) : ∀ (l acc : List Fl), (if (l.foldl (stepP x) (acc, false)).2 = true then (l.foldl (stepP x) (acc, false)).1 else (l.foldl (stepP x) (acc, false)).1 ++ [x]) = acc ++ insF x (delF l x.name)
  | [], acc => by simp [delF, insF]
  | y :: r, acc => by
    rw [List.foldl_cons]
    have hs : stepP x (acc, false) y = if sameN y.name x.name = true then (acc, false) else if lessN x.name y.name = true then (acc ++ [x] ++ [y], true) else (acc ++ [y], false) := by
      unfold stepP
      simp
    have hd : delF (y :: r) x.name = if sameN y.name x.name = true then delF r x.name else y :: delF r x.name := by
      unfold delF
      rw [List.filter_cons]
      cases sameN y.name x.name <;> simp
    rw [hs, hd]
    by_cases h : sameN y.name x.name = true
    · rw [if_pos h, if_pos h]
      exact accP_put x r acc
    · rw [if_neg h, if_neg h]
      unfold insF
      by_cases h2 : lessN x.name y.name = true
      · rw [if_pos h2, if_pos h2, accP_done, if_pos rfl]
        simp
      · rw [if_neg h2, if_neg h2]
        have := accP_put x r (acc ++ [y])
        rw [this]
        simp
theorem accP_all (x : Fl) (fs : List Fl) : (if (accP x fs fs.length).2 = true then (accP x fs fs.length).1 else (accP x fs fs.length).1 ++ [x]) = putF fs x := by
  unfold accP putF
  rw [List.take_length]
  have := accP_put x fs []
  rwa [List.nil_append] at this
theorem stepP_len (x : Fl) (s : List Fl × Bool) (y : Fl) : (stepP x s y).1.length ≤ s.1.length + 2 := by
  unfold stepP
  split
  · omega
  · split
    · simp
    · simp
theorem accP_len (x : Fl) (fs : List Fl) : ∀ k, k ≤ fs.length → (accP x fs k).1.length ≤ 2 * k
  | 0, _ => by simp [accP]
  | k + 1, h => by
    rw [accP_succ x fs k (by omega)]
    have h1 := accP_len x fs k (by omega)
    have h2 := stepP_len x (accP x fs k) fs[k]
    omega
/-- What '>' says of a name that isn't the other. -/
theorem gtr_law {y x : ByteArray} (h : sameN y x = false) : binOp .gtr 9 (.string y) (.string x) = pure (.bool (lessN x y)) := by
  have e1 : y.toList = y.data.toList := ByteArray.toList_eq y
  have e2 : x.toList = x.data.toList := ByteArray.toList_eq x
  have hne := sameN_ne.1 h
  have hb : (!(Op.bytesLess y.toList x.toList || y.toList == x.toList)) = lessN x y := by
    rw [less_before, e1, e2]
    have h2 : (y.data.toList == x.data.toList) = false := h
    rw [h2, Bool.or_false]
    show (!lessN y x) = lessN x y
    cases h3 : lessN y x with
    | true => rw [leq_no h3]; rfl
    | false => rw [lessN_total hne h3]; rfl
  rw [← hb]
  simp [binOp, Op.stringOp]
theorem ncell {W w5 : World} {b i : Nat} {v : Value} (hb : Below W.heap.size W w5) (hv : W.cell? ⟨b, i, none⟩ = some v) : w5.cell? ⟨b, i, none⟩ = some v := below_cell0 hb hv
set_option maxHeartbeats 4000000 in
set_option maxRecDepth 100000 in
theorem put_calls (base m : Nat) (A : Option Addr) (c : Nat) (d : DS) (x : Fl) (w : World) (h : Md w base m A c d) (hbs : base ≤ w.heap.size) (hl : d.files.length ≤ 100) :
    Calls Try.prog 26 #[.pointer (some ⟨m, 0, none⟩), .agg #[.string x.name, .string x.data, .int .i64 x.kept]] w fun e w' => e = .returned (.tuple #[]) ∧ ∃ A1 c1, MTurn w base m A c d A1 c1 { d with files := putF d.files x } w' := by
  have h1 : w.cell? ⟨m, 1, none⟩ = some (.slice A d.files.length c) := h.cell 1
  have HC := Aside0.mk (Kd.R_reads' h.row).2.2
  have HM := Aside0.mk h
  have HBS := Aside0.mk hbs
  have hml : m < w.heap.size := blk_lt h.blk
  have HFZ : Aside0 (∀ w1, Below w.heap.size w w1 → w1.frozen? ⟨m, 1, none⟩ = false) := ⟨fun w1 hb => blk_frozen ((hb.block m (blk_lt h.blk)).trans h.blk) 1⟩
  clear h hbs
  obtain ⟨fs, hfs⟩ : ∃ fs, fs = d.files := ⟨_, rfl⟩
  have HFS := Aside0.mk hfs
  rw [← hfs] at h1 HC hl
  clear hfs
  have HPA := Aside0.mk (accP_all x fs)
  have HBX := Aside0.mk (below_alloc (Below.refl w.heap.size w) (.cells #[.string x.name, .string x.data, .int .i64 x.kept] 52))
  have hx0 : (w.alloc (.cells #[.string x.name, .string x.data, .int .i64 x.kept] 52)).cell? ⟨w.heap.size, 0, none⟩ = some (.string x.name) := blk_cell (blk_new w _) 0
  have hx1 : (w.alloc (.cells #[.string x.name, .string x.data, .int .i64 x.kept] 52)).cell? ⟨w.heap.size, 1, none⟩ = some (.string x.data) := blk_cell (blk_new w _) 1
  have hx2 : (w.alloc (.cells #[.string x.name, .string x.data, .int .i64 x.kept] 52)).cell? ⟨w.heap.size, 2, none⟩ = some (.int .i64 x.kept) := blk_cell (blk_new w _) 2
  have HW0 : Aside0 (∀ w5, Below (w.alloc (.cells #[.string x.name, .string x.data, .int .i64 x.kept] 52)).heap.size (w.alloc (.cells #[.string x.name, .string x.data, .int .i64 x.kept] 52)) w5 → Below w.heap.size w w5) := ⟨fun w5 hb => HBX.out.trans (hb.mono HBX.out.size)⟩
  have HSZ : Aside0 (w.heap.size ≤ (w.alloc (.cells #[.string x.name, .string x.data, .int .i64 x.kept] 52)).heap.size) := ⟨HBX.out.size⟩
  go_enter Try.func26, Try.ntmps26
  go_wp2_with fail
  generalize (w.alloc (.cells #[.string x.name, .string x.data, .int .i64 x.kept] 52)) = W0 at HW0 HSZ HBX hx0 hx1 hx2 ⊢
  have HX := Aside0.mk (And.intro hx0 (And.intro hx1 hx2))
  have H1 := Aside0.mk h1
  clear hx0 hx1 hx2 h1
  go_loopg [4, 5, 6] (fs.length + 1) (fun kq v4 v5 v6 w' => ∃ (k : Nat), v6 = .int .i64 k ∧ v5 = .bool (accP x fs k).2 ∧ Aside0 (k + kq = fs.length + 1) ∧ k ≤ fs.length ∧ Aside0 (Kd.R kF 52 w' W0.heap.size (fun _ => True) v4 (accP x fs k).1) ∧ Aside0 (Below W0.heap.size W0 w'))
  case atStart => exact ⟨0, rfl, rfl, ⟨by omega⟩, Nat.zero_le _, ⟨Kd.R_nil _ _ _ _ _⟩, ⟨Below.refl _ _⟩⟩
  case round =>
    obtain ⟨k, rfl, rfl, HQ, hk, HO, HB⟩ := hrel
    have h1 : wr.cell? ⟨m, 1, none⟩ = some (.slice A fs.length c) := below_cell0 (HW0.out _ HB.out) H1.out
    have hx0 := below_cell0 HB.out HX.out.1
    have hx1 := below_cell0 HB.out HX.out.2.1
    have hx2 := below_cell0 HB.out HX.out.2.2
    have HLN := Aside0.mk (Nat.le_trans (accP_len x fs k hk) (Nat.mul_le_mul_left 2 (Nat.le_trans hk hl)))
    cases gk with
    | zero => exact absurd HQ.out (by omega)
    | succ k1 =>
      by_cases hkl : k < fs.length
      · obtain ⟨ad, eA, hy0, hy1, hy2⟩ := at_F HC.out (k : Int) (by omega) (by omega)
        cases eA
        rw [rdF_at fs k hkl] at hy0 hy1 hy2
        simp only [Int.toNat_natCast] at hy0 hy1 hy2
        have hst := accP_succ x fs k hkl
        obtain ⟨y, hy⟩ : ∃ y, y = fs[k] := ⟨_, rfl⟩
        rw [← hy] at hst hy0 hy1 hy2
        clear hy
        obtain ⟨acc, dn, hac⟩ : ∃ acc dn, accP x fs k = (acc, dn) := ⟨_, _, rfl⟩
        rw [hac] at HO HLN hst ⊢
        dsimp only at HO HLN ⊢
        clear hac
        unfold stepP at hst
        have HY := Aside0.mk (And.intro hy0 (And.intro hy1 hy2))
        replace hy0 := below_cell0 (HW0.out _ HB.out) hy0
        replace hy1 := below_cell0 (HW0.out _ HB.out) hy1
        replace hy2 := below_cell0 (HW0.out _ HB.out) hy2
        by_cases hsm : sameN y.name x.name = true
        · have hq : (y.name.toList == x.name.toList) = true := by rw [sameN_iff.1 hsm]; simp
          have HST : Aside0 (accP x fs (k + 1) = (acc, dn)) := ⟨by rw [hst, if_pos hsm]⟩
          clear hst hsm
          go_wp2_with fail
          go_quiet (fail)
          go_wp2
          go_roundg k1
          case measure => have := HQ.out; omega
          case rel => exact ⟨k + 1, by go_num, by rw [HST.out], ⟨by have := HQ.out; omega⟩, by omega, ⟨by rw [HST.out]; exact Kd.R_drewN HO.out _⟩, ⟨pw_below_drewN HB.out _⟩⟩
        · have hsf : sameN y.name x.name = false := by simpa using hsm
          have hq : (y.name.toList == x.name.toList) = false := beq_eq_false_iff_ne.2 (fun e => hsm (sameN_iff.2 (toList_eq_iff.1 e)))
          have HG := Aside0.mk (gtr_law hsf)
          rw [if_neg hsm] at hst
          clear hsm hsf
          cases dn with
          | true =>
            have HST : Aside0 (accP x fs (k + 1) = (acc ++ [y], true)) := ⟨by rw [hst, if_neg (fun h => by cases h.1)]⟩
            clear hst
            go_wp2_with fail
            go_quiet (fail)
            have HB2 := Aside0.mk (pw_below_drewN HB.out nq)
            have HO2 := Aside0.mk (Kd.R_drewN HO.out nq)
            clear h1 hx0 hx1 hx2 hy0 hy1 hy2 HB HO
            generalize wr.drewN nq = W2 at HB2 HO2 ⊢
            have h1 := below_cell0 (HW0.out _ HB2.out) H1.out
            have hx0 := below_cell0 HB2.out HX.out.1
            have hx1 := below_cell0 HB2.out HX.out.2.1
            have hx2 := below_cell0 HB2.out HX.out.2.2
            have hy0 := below_cell0 (HW0.out _ HB2.out) HY.out.1
            have hy1 := below_cell0 (HW0.out _ HB2.out) HY.out.2.1
            have hy2 := below_cell0 (HW0.out _ HB2.out) HY.out.2.2
            clear hq
            go_wp2_with fail
            go_quiet (fail)
            have HB3 := Aside0.mk (pw_below_drewN HB2.out nq)
            have HO3 := Aside0.mk (Kd.R_drewN HO2.out nq)
            clear h1 hx0 hx1 hx2 hy0 hy1 hy2 HB2 HO2
            generalize W2.drewN nq = W3 at HB3 HO3 ⊢
            have h1 := below_cell0 (HW0.out _ HB3.out) H1.out
            have hx0 := below_cell0 HB3.out HX.out.1
            have hx1 := below_cell0 HB3.out HX.out.2.1
            have hx2 := below_cell0 HB3.out HX.out.2.2
            have hy0 := below_cell0 (HW0.out _ HB3.out) HY.out.1
            have hy1 := below_cell0 (HW0.out _ HB3.out) HY.out.2.1
            have hy2 := below_cell0 (HW0.out _ HB3.out) HY.out.2.2
            go_wp2_with (first | ((with_reducible refine gate_builtin (b := .append) (xs := #[.tmp 46, .tmp 54]) rfl ?_); at_builtin; refine Kd.R_append kF (w0 := W0) W0.heap.size rfl (.tmp 46) (.tmp 54) 42 52 (.agg #[(.string ⟨#[]⟩), (.string ⟨#[]⟩), (.int .i64 0)]) 40 rfl Try.underlying42 infoF rfl (by decide) (by omega) u4 (acc) y [.string y.name, .string y.data, .int .i64 y.kept] (fun _ => True) (fun _ => False) rfl rfl (kF_mkM _ _ _ y) (fun _ hk => hk.elim) (fun _ _ => trivial) HO3.out HB3.out ?aS ?aL ?_; (case aS => exact HB3.out.size); (case aL => have := HLN.out; (try simp only [List.length_append, List.length_singleton]); omega); intro v1 w6 ho hb hg_ hat_; clear hg_ hat_; have HO_w6 := Aside0.mk ho; have HB_w6 := Aside0.mk hb; clear ho hb))
            go_roundg k1
            case measure => have := HQ.out; omega
            case rel => exact ⟨k + 1, by go_num, by rw [HST.out], ⟨by have := HQ.out; omega⟩, by omega, ⟨by rw [HST.out]; exact HO_w6.out⟩, HB_w6⟩
          | false =>
            cases hls : lessN x.name y.name with
            | true =>
              have HST : Aside0 (accP x fs (k + 1) = (acc ++ [x] ++ [y], true)) := ⟨by rw [hst, if_pos ⟨rfl, hls⟩]⟩
              clear hst
              have hgt := HG.out
              rw [hls] at hgt
              go_wp2_with fail
              go_quiet (fail)
              have HB2 := Aside0.mk (pw_below_drewN HB.out nq)
              have HO2 := Aside0.mk (Kd.R_drewN HO.out nq)
              clear h1 hx0 hx1 hx2 hy0 hy1 hy2 HB HO
              generalize wr.drewN nq = W2 at HB2 HO2 ⊢
              have h1 := below_cell0 (HW0.out _ HB2.out) H1.out
              have hx0 := below_cell0 HB2.out HX.out.1
              have hx1 := below_cell0 HB2.out HX.out.2.1
              have hx2 := below_cell0 HB2.out HX.out.2.2
              have hy0 := below_cell0 (HW0.out _ HB2.out) HY.out.1
              have hy1 := below_cell0 (HW0.out _ HB2.out) HY.out.2.1
              have hy2 := below_cell0 (HW0.out _ HB2.out) HY.out.2.2
              clear hq
              go_wp2_with fail
              go_quiet (fail)
              have HB3 := Aside0.mk (pw_below_drewN HB2.out nq)
              have HO3 := Aside0.mk (Kd.R_drewN HO2.out nq)
              clear h1 hx0 hx1 hx2 hy0 hy1 hy2 HB2 HO2
              generalize W2.drewN nq = W3 at HB3 HO3 ⊢
              have h1 := below_cell0 (HW0.out _ HB3.out) H1.out
              have hx0 := below_cell0 HB3.out HX.out.1
              have hx1 := below_cell0 HB3.out HX.out.2.1
              have hx2 := below_cell0 HB3.out HX.out.2.2
              have hy0 := below_cell0 (HW0.out _ HB3.out) HY.out.1
              have hy1 := below_cell0 (HW0.out _ HB3.out) HY.out.2.1
              have hy2 := below_cell0 (HW0.out _ HB3.out) HY.out.2.2
              go_wp2_with (first | ((with_reducible refine gate_builtin (b := .append) (xs := #[.tmp 42, .tmp 44]) rfl ?_); at_builtin; refine Kd.R_append kF (w0 := W0) W0.heap.size rfl (.tmp 42) (.tmp 44) 42 52 (.agg #[(.string ⟨#[]⟩), (.string ⟨#[]⟩), (.int .i64 0)]) 40 rfl Try.underlying42 infoF rfl (by decide) (by omega) u4 (acc) x [.string x.name, .string x.data, .int .i64 x.kept] (fun _ => True) (fun _ => False) rfl rfl (kF_mkM _ _ _ x) (fun _ hk => hk.elim) (fun _ _ => trivial) HO3.out HB3.out ?aS ?aL ?_; (case aS => exact HB3.out.size); (case aL => have := HLN.out; (try simp only [List.length_append, List.length_singleton]); omega); intro v1 w6 ho hb hg_ hat_; clear hg_ hat_; have HO_w6 := Aside0.mk ho; have HB_w6 := Aside0.mk hb; clear ho hb; clear h1 hx0 hx1 hx2 hy0 hy1 hy2; have h1 := below_cell0 (HW0.out _ HB_w6.out) H1.out; have hx0 := below_cell0 HB_w6.out HX.out.1; have hx1 := below_cell0 HB_w6.out HX.out.2.1; have hx2 := below_cell0 HB_w6.out HX.out.2.2; have hy0 := below_cell0 (HW0.out _ HB_w6.out) HY.out.1; have hy1 := below_cell0 (HW0.out _ HB_w6.out) HY.out.2.1; have hy2 := below_cell0 (HW0.out _ HB_w6.out) HY.out.2.2) | ((with_reducible refine gate_builtin (b := .append) (xs := #[.tmp 46, .tmp 54]) rfl ?_); at_builtin; refine Kd.R_append kF (w0 := W0) W0.heap.size rfl (.tmp 46) (.tmp 54) 42 52 (.agg #[(.string ⟨#[]⟩), (.string ⟨#[]⟩), (.int .i64 0)]) 40 rfl Try.underlying42 infoF rfl (by decide) (by omega) v1 (acc ++ [x]) y [.string y.name, .string y.data, .int .i64 y.kept] (fun _ => True) (fun _ => False) rfl rfl (kF_mkM _ _ _ y) (fun _ hk => hk.elim) (fun _ _ => trivial) HO_w6.out HB_w6.out ?aS ?aL ?_; (case aS => exact HB_w6.out.size); (case aL => have := HLN.out; (try simp only [List.length_append, List.length_singleton]); omega); intro v2 w7 ho hb hg_ hat_; clear hg_ hat_; have HO_w7 := Aside0.mk ho; have HB_w7 := Aside0.mk hb; clear ho hb))
              go_roundg k1
              case measure => have := HQ.out; omega
              case rel => exact ⟨k + 1, by go_num, by rw [HST.out], ⟨by have := HQ.out; omega⟩, by omega, ⟨by rw [HST.out]; exact HO_w7.out⟩, HB_w7⟩
            | false =>
              have HST : Aside0 (accP x fs (k + 1) = (acc ++ [y], false)) := ⟨by rw [hst, if_neg (fun h => by rw [hls] at h; cases h.2)]⟩
              clear hst
              have hgt := HG.out
              rw [hls] at hgt
              go_wp2_with fail
              go_quiet (fail)
              have HB2 := Aside0.mk (pw_below_drewN HB.out nq)
              have HO2 := Aside0.mk (Kd.R_drewN HO.out nq)
              clear h1 hx0 hx1 hx2 hy0 hy1 hy2 HB HO
              generalize wr.drewN nq = W2 at HB2 HO2 ⊢
              have h1 := below_cell0 (HW0.out _ HB2.out) H1.out
              have hx0 := below_cell0 HB2.out HX.out.1
              have hx1 := below_cell0 HB2.out HX.out.2.1
              have hx2 := below_cell0 HB2.out HX.out.2.2
              have hy0 := below_cell0 (HW0.out _ HB2.out) HY.out.1
              have hy1 := below_cell0 (HW0.out _ HB2.out) HY.out.2.1
              have hy2 := below_cell0 (HW0.out _ HB2.out) HY.out.2.2
              clear hq
              go_wp2_with fail
              go_quiet (fail)
              have HB3 := Aside0.mk (pw_below_drewN HB2.out nq)
              have HO3 := Aside0.mk (Kd.R_drewN HO2.out nq)
              clear h1 hx0 hx1 hx2 hy0 hy1 hy2 HB2 HO2
              generalize W2.drewN nq = W3 at HB3 HO3 ⊢
              have h1 := below_cell0 (HW0.out _ HB3.out) H1.out
              have hx0 := below_cell0 HB3.out HX.out.1
              have hx1 := below_cell0 HB3.out HX.out.2.1
              have hx2 := below_cell0 HB3.out HX.out.2.2
              have hy0 := below_cell0 (HW0.out _ HB3.out) HY.out.1
              have hy1 := below_cell0 (HW0.out _ HB3.out) HY.out.2.1
              have hy2 := below_cell0 (HW0.out _ HB3.out) HY.out.2.2
              go_wp2_with (first | ((with_reducible refine gate_builtin (b := .append) (xs := #[.tmp 46, .tmp 54]) rfl ?_); at_builtin; refine Kd.R_append kF (w0 := W0) W0.heap.size rfl (.tmp 46) (.tmp 54) 42 52 (.agg #[(.string ⟨#[]⟩), (.string ⟨#[]⟩), (.int .i64 0)]) 40 rfl Try.underlying42 infoF rfl (by decide) (by omega) u4 (acc) y [.string y.name, .string y.data, .int .i64 y.kept] (fun _ => True) (fun _ => False) rfl rfl (kF_mkM _ _ _ y) (fun _ hk => hk.elim) (fun _ _ => trivial) HO3.out HB3.out ?aS ?aL ?_; (case aS => exact HB3.out.size); (case aL => have := HLN.out; (try simp only [List.length_append, List.length_singleton]); omega); intro v1 w6 ho hb hg_ hat_; clear hg_ hat_; have HO_w6 := Aside0.mk ho; have HB_w6 := Aside0.mk hb; clear ho hb))
              go_roundg k1
              case measure => have := HQ.out; omega
              case rel => exact ⟨k + 1, by go_num, by rw [HST.out], ⟨by have := HQ.out; omega⟩, by omega, ⟨by rw [HST.out]; exact HO_w6.out⟩, HB_w6⟩
      · have hkf : k = fs.length := by omega
        have HPB := HPA.out
        rw [← hkf] at HPB
        obtain ⟨acc, dn, hac⟩ : ∃ acc dn, accP x fs k = (acc, dn) := ⟨_, _, rfl⟩
        rw [hac] at HO HLN HPB ⊢
        dsimp only at HO HLN HPB ⊢
        have HPC := Aside0.mk HPB
        clear hac HPB hkf
        cases dn with
        | true =>
          have HE : Aside0 (acc = putF fs x) := ⟨by have := HPC.out; simpa using this⟩
          obtain ⟨A9, c9, e9⟩ := Kd.R_slice HO.out
          subst e9
          have hfz := HFZ.out _ (HW0.out _ HB.out)
          rw [HE.out] at HO ⊢
          have HT := Aside0.mk (MTurn.row HM.out (HW0.out _ HB.out) (Kd.R_lower HO.out HSZ.out) HBS.out)
          go_wp2
          go_end0
          exact ⟨rfl, A9, c9, by rw [← HFS.out]; exact HT.out⟩
        | false =>
          have HE : Aside0 (acc ++ [x] = putF fs x) := ⟨by have := HPC.out; simpa using this⟩
          go_wp2_with (first | ((with_reducible refine gate_builtin (b := .append) (xs := #[.tmp 58, .tmp 60]) rfl ?_); at_builtin; refine Kd.R_append kF (w0 := W0) W0.heap.size rfl (.tmp 58) (.tmp 60) 42 52 (.agg #[(.string ⟨#[]⟩), (.string ⟨#[]⟩), (.int .i64 0)]) 40 rfl Try.underlying42 infoF rfl (by decide) (by omega) u4 (acc) x [.string x.name, .string x.data, .int .i64 x.kept] (fun _ => True) (fun _ => False) rfl rfl (kF_mkM _ _ _ x) (fun _ hk => hk.elim) (fun _ _ => trivial) HO.out HB.out ?aS ?aL ?_; (case aS => exact HB.out.size); (case aL => have := HLN.out; (try simp only [List.length_append, List.length_singleton]); omega); intro v1 w6 ho hb hg_ hat_; clear hg_ hat_; have HO_w6 := Aside0.mk ho; have HB_w6 := Aside0.mk hb; clear ho hb; rw [HE.out] at HO_w6; obtain ⟨A9, c9, e9⟩ := Kd.R_slice HO_w6.out; subst e9; have hfz := HFZ.out _ (HW0.out _ HB_w6.out); clear h1 hx0 hx1 hx2; have h1 := below_cell0 (HW0.out _ HB_w6.out) H1.out; have HT := Aside0.mk (MTurn.row HM.out (HW0.out _ HB_w6.out) (Kd.R_lower HO_w6.out HSZ.out) HBS.out)))
          go_end0
          exact ⟨rfl, A9, c9, by rw [← HFS.out]; exact HT.out⟩
end Go.Proofs.Ytihlacambdfmfaa.PK
/- disk: the law's own model: drop. -/
namespace Go.Proofs.Ytihlacambdfmfaa.PK
open Go.RowKit Go.Proofs.YtihlacambdfmfaaW.PrintWords Go.Proofs.YtihlacambdfmfaaW.PrintLast Go.Proofs.YtihlacambdfmfaaW.PrintMore
open Go.Maps
open Go.Proofs.Ytihlacambdfmfaa.PR
def delT (fs : List Fl) (s : ByteArray) (k : Nat) : List Fl := delF (fs.take k) s
theorem delT_yes (fs : List Fl) (s : ByteArray) (k : Nat) (h : k < fs.length) (hn : fs[k].name ≠ s) : delT fs s (k + 1) = delT fs s k ++ [fs[k]] := by
  unfold delT delF
  rw [List.take_succ_eq_append_getElem h, List.filter_append]
  simp [sameN_ne.2 hn]
theorem delT_no (fs : List Fl) (s : ByteArray) (k : Nat) (h : k < fs.length) (hn : fs[k].name = s) : delT fs s (k + 1) = delT fs s k := by
  unfold delT delF
  rw [List.take_succ_eq_append_getElem h, List.filter_append]
  simp [hn, sameN_self]
theorem delT_len (fs : List Fl) (s : ByteArray) (k : Nat) : (delT fs s k).length ≤ k := by
  unfold delT delF
  exact Nat.le_trans (List.length_filter_le _ _) (by rw [List.length_take]; omega)
theorem delT_all (fs : List Fl) (s : ByteArray) (k : Nat) (h : k = fs.length) : delT fs s k = delF fs s := by
  unfold delT
  rw [h, List.take_length]
set_option maxHeartbeats 4000000 in
set_option maxRecDepth 100000 in
theorem drop_calls (base m : Nat) (A : Option Addr) (c : Nat) (d : DS) (name : ByteArray) (w : World) (h : Md w base m A c d) (hbs : base ≤ w.heap.size) (hl : d.files.length ≤ 100) :
    Calls Try.prog 50 #[.pointer (some ⟨m, 0, none⟩), .string name] w fun e w' => e = .returned (.tuple #[]) ∧ ∃ A1 c1, MTurn w base m A c d A1 c1 { d with files := delF d.files name } w' := by
  have h1 : w.cell? ⟨m, 1, none⟩ = some (.slice A d.files.length c) := h.cell 1
  have HC := Aside0.mk (Kd.R_reads' h.row).2.2
  have HM := Aside0.mk h
  have HBS := Aside0.mk hbs
  have HFZ : Aside0 (∀ w1, Below w.heap.size w w1 → w1.frozen? ⟨m, 1, none⟩ = false) := ⟨fun w1 hb => blk_frozen ((hb.block m (blk_lt h.blk)).trans h.blk) 1⟩
  clear h hbs
  obtain ⟨fs, hfs⟩ : ∃ fs, fs = d.files := ⟨_, rfl⟩
  have HFS := Aside0.mk hfs
  rw [← hfs] at h1 HC hl
  clear hfs
  have H1 := Aside0.mk h1
  have HB0 : Aside0 (Below w.heap.size w w) := ⟨Below.refl _ _⟩
  go_enter Try.func50, Try.ntmps50
  go_wp2_with fail
  clear h1
  go_loopg [4, 5] (fs.length + 1) (fun kq v4 v5 w' => ∃ (k : Nat), v5 = .int .i64 k ∧ Aside0 (k + kq = fs.length + 1) ∧ k ≤ fs.length ∧ Aside0 (Kd.R kF 52 w' w.heap.size (fun _ => True) v4 (delT fs name k)) ∧ Aside0 (Below w.heap.size w w'))
  case atStart => exact ⟨0, rfl, ⟨by omega⟩, Nat.zero_le _, ⟨Kd.R_nil _ _ _ _ _⟩, HB0⟩
  case round =>
    clear HB0
    obtain ⟨k, rfl, HQ, hk, HO, HB⟩ := hrel
    have h1 := below_cell0 HB.out H1.out
    have HLN := Aside0.mk (Nat.le_trans (delT_len fs name k) (Nat.le_trans hk hl))
    cases gk with
    | zero => exact absurd HQ.out (by omega)
    | succ k1 =>
      by_cases hkl : k < fs.length
      · obtain ⟨ad, eA, hy0, hy1, hy2⟩ := at_F HC.out (k : Int) (by omega) (by omega)
        cases eA
        rw [rdF_at fs k hkl] at hy0 hy1 hy2
        simp only [Int.toNat_natCast] at hy0 hy1 hy2
        replace hy0 := below_cell0 HB.out hy0
        replace hy1 := below_cell0 HB.out hy1
        replace hy2 := below_cell0 HB.out hy2
        by_cases hs : fs[k].name = name
        · have hq : (fs[k].name.toList == name.toList) = true := by rw [hs]; simp
          have HST := Aside0.mk (delT_no fs name k hkl hs)
          clear hs
          generalize fs[k] = y at hy0 hy1 hy2 hq HST
          go_wp2
          go_roundg k1
          case measure => have := HQ.out; omega
          case rel => exact ⟨k + 1, by go_num, ⟨by have := HQ.out; omega⟩, by omega, ⟨by rw [HST.out]; exact HO.out⟩, HB⟩
        · have hq : (fs[k].name.toList == name.toList) = false := beq_eq_false_iff_ne.2 (fun e => hs (toList_eq_iff.1 e))
          have HST := Aside0.mk (delT_yes fs name k hkl hs)
          clear hs
          generalize fs[k] = y at hy0 hy1 hy2 hq HST
          go_wp2_with (first | ((with_reducible refine gate_builtin (b := .append) (xs := #[.tmp 25, .tmp 33]) rfl ?_); at_builtin; refine Kd.R_append kF (w0 := w) w.heap.size rfl (.tmp 25) (.tmp 33) 42 52 (.agg #[(.string ⟨#[]⟩), (.string ⟨#[]⟩), (.int .i64 0)]) 40 rfl Try.underlying42 infoF rfl (by decide) (by omega) u4 (delT fs name k) y [.string y.name, .string y.data, .int .i64 y.kept] (fun _ => True) (fun _ => False) rfl rfl (kF_mkM _ _ _ y) (fun _ hk => hk.elim) (fun _ _ => trivial) HO.out HB.out ?aS ?aL ?_; (case aS => exact HB.out.size); (case aL => have := HLN.out; omega); intro v1 w6 ho hb hg_ hat_; clear hg_ hat_; have HO_w6 := Aside0.mk ho; have HB_w6 := Aside0.mk hb; clear ho hb))
          go_roundg k1
          case measure => have := HQ.out; omega
          case rel => exact ⟨k + 1, by go_num, ⟨by have := HQ.out; omega⟩, by omega, ⟨by rw [HST.out]; exact HO_w6.out⟩, HB_w6⟩
      · have HE := Aside0.mk (delT_all fs name k (by omega))
        rw [HE.out] at HO
        obtain ⟨A9, c9, e9⟩ := Kd.R_slice HO.out
        subst e9
        have hfz := HFZ.out _ HB.out
        have HT := Aside0.mk (MTurn.row HM.out HB.out HO.out HBS.out)
        go_wp2
        go_end0
        exact ⟨rfl, A9, c9, by rw [← HFS.out]; exact HT.out⟩
end Go.Proofs.Ytihlacambdfmfaa.PK
/- disk: the law's own model: one file's cells are set. -/
namespace Go.Proofs.Ytihlacambdfmfaa.PK
open Go.RowKit Go.Proofs.YtihlacambdfmfaaW.PrintWords Go.Proofs.YtihlacambdfmfaaW.PrintLast Go.Proofs.YtihlacambdfmfaaW.PrintMore
open Go.Maps
open Go.Proofs.Ytihlacambdfmfaa.PR
theorem MTurn.elem {w : World} {base m g c : Nat} {d : DS} (h : Md w base m (some ⟨g, 0, none⟩) c d) (k : Nat) (hk : k < d.files.length) (j : Nat) (seg : List Value) (x' : Fl) (hj : j + seg.length ≤ 3)
    (hM : ([.string d.files[k].name, .string d.files[k].data, .int .i64 d.files[k].kept] : List Value).take j ++ seg ++ ([.string d.files[k].name, .string d.files[k].data, .int .i64 d.files[k].kept] : List Value).drop (j + seg.length) = [.string x'.name, .string x'.data, .int .i64 x'.kept]) :
    MTurn w base m (some ⟨g, 0, none⟩) c d (some ⟨g, 0, none⟩) c { d with files := d.files.set k x' } (w.setCells g (k * 3 + j) seg) := by
  obtain ⟨ad, e, hx0, hx1, hx2⟩ := at_F (Kd.R_reads' h.row).2.2 (k : Int) (by omega) (by omega)
  cases e
  rw [rdF_at d.files k hk] at hx0 hx1 hx2
  simp only [Int.toNat_natCast] at hx0 hx1 hx2
  have hadd : (⟨g, 0, none⟩ : Addr).add (k * 3) = ⟨g, k * 3, none⟩ := by rw [add_at, Nat.zero_add]
  rw [hadd] at hx0 hx1 hx2
  have hcc : ∀ (i : Nat) (u : Value), ([.string d.files[k].name, .string d.files[k].data, .int .i64 d.files[k].kept] : List Value)[i]? = some u → w.cell? ⟨g, (k : Int).toNat * 3 + i, none⟩ = some u := by
    intro i u hu
    rw [Int.toNat_natCast]
    match i, hu with
    | 0, hu => injection hu with hu; rw [← hu]; exact hx0
    | 1, hu => injection hu with hu; rw [← hu]; exact hx1
    | 2, hu => injection hu with hu; rw [← hu]; exact hx2
    | n + 3, hu => simp at hu
  obtain ⟨hr, hg⟩ := Kd.R_seg (okp := fun _ => False) h.row (k : Int) (by omega) (by omega) (c := [.string d.files[k].name, .string d.files[k].data, .int .i64 d.files[k].kept]) (seg := seg) (j := j) rfl hcc hj (x' := x') (by rw [hM]; exact kF_mkM _ _ _ x') (fun _ hk => hk.elim)
  have e3 : (k : Int).toNat * kF.sz + j = k * 3 + j := rfl
  rw [e3, Int.toNat_natCast] at hr
  rw [e3] at hg
  have hne : some m ≠ some g := fun e => h.own_ne (by rw [e]; rfl)
  have hl : (d.files.set k x').length = d.files.length := List.length_set
  refine ⟨⟨?_, ?_, h.ge⟩, Kp.of_grown hg (fun i hi => .inr (by rw [← hi]; rfl)), fun i hi => .inl ?_⟩
  · rw [hg.block m (blk_lt h.blk) hne, h.blk]
    unfold mdCells
    rw [hl]
  · show Kd.R kF _ _ base _ (.slice _ (d.files.set k x').length c) (d.files.set k x')
    rw [hl]
    exact hr
  · unfold ft at hi ⊢
    rw [hl] at hi
    exact hi
/-- A file's cells are as they were. -/
theorem Md.file {w : World} {base m : Nat} {A : Option Addr} {c : Nat} {d : DS} (h : Md w base m A c d) (k : Nat) (hk : k < d.files.length) : ∃ g, A = some ⟨g, 0, none⟩ ∧ w.cell? ⟨g, k * 3, none⟩ = some (.string d.files[k].name) ∧ w.cell? ⟨g, k * 3 + 1, none⟩ = some (.string d.files[k].data) ∧ w.cell? ⟨g, k * 3 + 2, none⟩ = some (.int .i64 d.files[k].kept) ∧ (∀ i, w.frozen? ⟨g, i, none⟩ = false) ∧ g < w.heap.size := by
  obtain ⟨g, cap, e, _, hlt, cells, hcl⟩ := Kd.R_form h.row (by omega)
  injection e with e1 _ e2
  subst e1
  obtain ⟨ad, e, hx0, hx1, hx2⟩ := at_F (Kd.R_reads' h.row).2.2 (k : Int) (by omega) (by omega)
  cases e
  rw [rdF_at d.files k hk] at hx0 hx1 hx2
  simp only [Int.toNat_natCast] at hx0 hx1 hx2
  have hadd : (⟨g, 0, none⟩ : Addr).add (k * 3) = ⟨g, k * 3, none⟩ := by rw [add_at, Nat.zero_add]
  rw [hadd] at hx0 hx1 hx2
  exact ⟨g, rfl, hx0, hx1, hx2, fun i => blk_frozen hcl i, hlt⟩
theorem MTurn.elem3 {w : World} {base m g c : Nat} {d : DS} (h : Md w base m (some ⟨g, 0, none⟩) c d) (k : Nat) (hk : k < d.files.length) (x' : Fl) :
    MTurn w base m (some ⟨g, 0, none⟩) c d (some ⟨g, 0, none⟩) c { d with files := d.files.set k x' } (((w.setCell ⟨g, k * 3, none⟩ (.string x'.name)).setCell ⟨g, k * 3 + 1, none⟩ (.string x'.data)).setCell ⟨g, k * 3 + 2, none⟩ (.int .i64 x'.kept)) :=
  MTurn.elem h k hk 0 [.string x'.name, .string x'.data, .int .i64 x'.kept] x' (Nat.le_refl 3) rfl
theorem MTurn.elemK {w : World} {base m g c : Nat} {d : DS} (h : Md w base m (some ⟨g, 0, none⟩) c d) (k : Nat) (hk : k < d.files.length) (n : Int) :
    MTurn w base m (some ⟨g, 0, none⟩) c d (some ⟨g, 0, none⟩) c { d with files := d.files.set k { d.files[k] with kept := n } } (w.setCell ⟨g, k * 3 + 2, none⟩ (.int .i64 n)) :=
  MTurn.elem h k hk 2 [.int .i64 n] { d.files[k] with kept := n } (Nat.le_refl 3) rfl
end Go.Proofs.Ytihlacambdfmfaa.PK
/- disk: the law's own model: crash. -/
namespace Go.Proofs.Ytihlacambdfmfaa.PK
open Go.RowKit Go.Proofs.YtihlacambdfmfaaW.PrintWords Go.Proofs.YtihlacambdfmfaaW.PrintLast Go.Proofs.YtihlacambdfmfaaW.PrintMore
open Go.Maps
open Go.Proofs.Ytihlacambdfmfaa.PR
theorem crashK_set (fs : List Fl) (keep : List Int) (k : Nat) (hk : k < fs.length) : crashK fs keep (k + 1) = (crashK fs keep k).set k (crashFl (moreK keep k) fs[k]) := by
  unfold crashK
  apply List.ext_getElem
  · simp
  · intro i h1 h2
    rw [List.length_mapIdx] at h1
    rw [List.getElem_mapIdx, List.getElem_set, List.getElem_mapIdx]
    by_cases e : k = i
    · subst e
      rw [if_pos rfl, if_pos (Nat.lt_succ_self _)]
    · rw [if_neg e]
      by_cases h : i < k
      · rw [if_pos h, if_pos (by omega)]
      · rw [if_neg h, if_neg (by omega)]
set_option maxHeartbeats 4000000 in
set_option maxRecDepth 100000 in
theorem mcrash_calls (base m : Nat) (A : Option Addr) (c : Nat) (d : DS) (B : Option Addr) (cb : Nat) (keep : List Int) (w : World) (h : Md w base m A c d) (hg : Good d) (hC : Kd.C (Kd.int .i64) w B keep.length keep) (hB : ∀ ad, B = some ad → 0 < keep.length → ¬ ft m A c d ad.block) :
    Calls Try.prog 22 #[.pointer (some ⟨m, 0, none⟩), .slice B keep.length cb] w fun e w' => e = .returned (.tuple #[]) ∧ MTurn w base m A c d A c (crashD d keep) w' := by
  have h1 : w.cell? ⟨m, 1, none⟩ = some (.slice A d.files.length c) := h.cell 1
  have h2 : w.cell? ⟨m, 2, none⟩ = some (.bool d.off) := h.cell 2
  have h3 : w.cell? ⟨m, 3, none⟩ = some (.bool d.armed) := h.cell 3
  have f2 := h.frozen 2
  have f3 := h.frozen 3
  have hlt : m < w.heap.size := blk_lt h.blk
  have t1 := MTurn.set (d1 := { d with off := false }) h 2 (.bool false) rfl rfl
  have HT2 := Aside0.mk (t1.trans (MTurn.set (d1 := { ({ d with off := false } : DS) with armed := false }) t1.md 3 (.bool false) rfl rfl))
  have HKC := Aside0.mk (fun w' (hk : Kp (ft m A c d) w w') => intC_kp hC hk hB)
  have hmax := Kd.C_max hC
  have HG := Aside0.mk hg
  obtain ⟨d2, hd2⟩ : ∃ d2 : DS, d2 = { ({ d with off := false } : DS) with armed := false } := ⟨_, rfl⟩
  have HF : Aside0 (d2.files = d.files ∧ crashD d keep = { d2 with files := crashK d2.files keep d2.files.length }) := ⟨by rw [hd2]; exact ⟨rfl, rfl⟩⟩
  have hd2' : ({ ({ d with off := false } : DS) with armed := false } : DS) = d2 := hd2.symm
  rw [hd2'] at HT2
  rw [HF.out.2]
  have HEA : Aside0 (∀ f ∈ d2.files, 0 < f.name.size ∧ f.name.size ≤ 20 ∧ f.data.size ≤ 1048576 ∧ 0 ≤ f.kept ∧ f.kept ≤ (f.data.size : Int)) := ⟨by rw [HF.out.1]; exact HG.out.each⟩
  have hcnt : d2.files.length ≤ 100 := by rw [HF.out.1]; exact HG.out.count
  have HD20 : Aside0 (d2 = { d2 with files := crashK d2.files keep 0 }) := ⟨by rw [crashK_zero]⟩
  have HFL := Aside0.mk HF.out.1
  clear h hg hC hB hd2 hd2' t1 HG HF
  go_enter Try.func22, Try.ntmps22
  go_wp2_with fail
  go_loopg [4, 5, 6] (d2.files.length + 1) (fun kq v4 _ _ w' => ∃ k : Nat, v4 = .int .i64 k ∧ Aside0 (k + kq = d2.files.length + 1) ∧ k ≤ d2.files.length ∧ Aside0 (MTurn w base m A c d A c { d2 with files := crashK d2.files keep k } w'))
  case atStart => exact ⟨0, rfl, ⟨by omega⟩, Nat.zero_le _, ⟨by rw [← HD20.out]; exact HT2.out⟩⟩
  case round =>
    clear h1 h2 h3 f2 f3
    obtain ⟨k, rfl, HQ, hk, HT⟩ := hrel
    have hkl0 := crashK_len d2.files keep k
    have h1 : wr.cell? ⟨m, 1, none⟩ = some (.slice A d2.files.length c) := by have := HT.out.md.cell 1; rw [← hkl0]; exact this
    cases gk with
    | zero => exact absurd HQ.out (by omega)
    | succ k1 =>
      by_cases hkl : k < d2.files.length
      · obtain ⟨g, eA, hy0, hy1, hy2, hyf, hyl⟩ := HT.out.md.file k (by show k < (crashK d2.files keep k).length; rw [hkl0]; exact hkl)
        subst eA
        have hgk : (crashK d2.files keep k)[k]'(by rw [hkl0]; exact hkl) = d2.files[k] := by unfold crashK; rw [List.getElem_mapIdx, if_neg (Nat.lt_irrefl _)]
        have hyd : ∀ (f : Fl), (({ d2 with files := crashK d2.files keep k } : DS).files[k]'(by show k < (crashK d2.files keep k).length; rw [hkl0]; exact hkl)) = f → d2.files[k] = f := fun f e => by rw [← hgk]; exact e
        obtain ⟨f, hf⟩ : ∃ f, (({ d2 with files := crashK d2.files keep k } : DS).files[k]'(by show k < (crashK d2.files keep k).length; rw [hkl0]; exact hkl)) = f := ⟨_, rfl⟩
        rw [hf] at hy0 hy1 hy2
        have hf2 := hyd f hf
        have HSET := Aside0.mk (crashK_set d2.files keep k hkl)
        rw [hf2] at HSET
        have hea := HEA.out f (by rw [← hf2]; exact List.getElem_mem hkl)
        clear hgk hyd hf hf2
        obtain ⟨mo, hmo⟩ : ∃ mo, mo = moreK keep k := ⟨_, rfl⟩
        rw [← hmo] at HSET
        have hmo0 : 0 ≤ mo := by rw [hmo]; unfold moreK; split <;> omega
        obtain ⟨n0, hn0⟩ : ∃ n0 : Nat, (n0 : Int) = keepN f mo := ⟨(keepN f mo).toNat, by unfold keepN; omega⟩
        have hn1 : n0 ≤ f.data.size := by unfold keepN at hn0; omega
        have HX9 : Aside0 (crashFl mo f = { f with data := f.data.extract 0 n0, kept := (n0 : Int) }) := ⟨by unfold crashFl; rw [← hn0, Int.toNat_natCast]⟩
        have hb0 := blk_cell (blk_new wr (.cells #[.string f.name, .string f.data, .int .i64 f.kept] 52)) 0
        have hb1 := blk_cell (blk_new wr (.cells #[.string f.name, .string f.data, .int .i64 f.kept] 52)) 1
        have hb2 := blk_cell (blk_new wr (.cells #[.string f.name, .string f.data, .int .i64 f.kept] 52)) 2
        simp only [List.getElem?_toArray, List.getElem?_cons_succ, List.getElem?_cons_zero] at hb0 hb1 hb2
        have HTA := Aside0.mk (HT.out.trans (MTurn.below HT.out.md (below_alloc (Below.refl _ _) (.cells #[.string f.name, .string f.data, .int .i64 f.kept] 52))))
        have h1a := below_cell0 (below_alloc (Below.refl _ _) (.cells #[.string f.name, .string f.data, .int .i64 f.kept] 52)) h1
        have hkept : f.kept ≤ (n0 : Int) := by rw [hn0]; unfold keepN; omega
        have hstep : ∀ nn : Int, f.kept ≤ nn → nn ≤ (n0 : Int) → (nn < (n0 : Int) ↔ nn < (f.data.size : Int) ∧ (k < keep.length ∧ nn - f.kept < rd keep (k : Int))) := by
          intro nn h1 h2
          rw [hn0]
          unfold keepN
          rw [hmo]
          unfold moreK
          split <;> omega
        have HSTP := Aside0.mk hstep
        have hkp0 := hea.2.2.2.1
        have hsz0 := hea.2.2.1
        clear hstep hmo hmo0 hn0 hea
        go_wp2_with fail
        clear h1 hy0 hy1 hy2
        generalize wr.alloc (.cells #[.string f.name, .string f.data, .int .i64 f.kept] 52) = WA at HTA h1a hb0 hb1 hb2 ⊢
        generalize wr.heap.size = bx at hb0 hb1 hb2 ⊢
        have HH := Aside0.mk (And.intro h1a (And.intro hb0 (And.intro hb1 hb2)))
        clear h1a hb0 hb1 hb2 hyf hyl
        go_loopg [6] (n0 + 2) (fun kq v6 w' => ∃ nn : Int, v6 = .int .i64 nn ∧ Aside0 (nn + kq = (n0 : Int) + 2 + (f.kept - f.kept) ∨ (n0 : Int) < nn + kq) ∧ f.kept ≤ nn ∧ nn ≤ (n0 : Int) ∧ Aside0 (Below WA.heap.size WA w'))
        case atStart => exact ⟨f.kept, rfl, ⟨by omega⟩, Int.le_refl _, hkept, ⟨Below.refl _ _⟩⟩
        case round =>
          obtain ⟨nn, rfl, HQ3, hn2, hn3, HB3⟩ := hrel
          have h1 := below_cell0 HB3.out HH.out.1
          have hb0 := below_cell0 HB3.out HH.out.2.1
          have hb1 := below_cell0 HB3.out HH.out.2.2.1
          have hb2 := below_cell0 HB3.out HH.out.2.2.2
          have HST := Aside0.mk (HSTP.out nn hn2 hn3)
          have hwm : IntKind.i64.wrap (nn - f.kept) = nn - f.kept := by rw [IntKind.wrap_i64]; omega
          have HNN := Aside0.mk (And.intro hn2 hn3)
          clear hn2 hn3
          cases gk with
          | zero => exact absurd HQ3.out (by have := HNN.out.2; omega)
          | succ k2 =>
            by_cases hlt0 : nn < (n0 : Int)
            · obtain ⟨c1, c2, c3⟩ := HST.out.1 hlt0
              have c1b : decide (nn < (f.data.size : Int)) = true := decide_eq_true c1
              have c2b : decide (k < keep.length) = true := decide_eq_true c2
              have HTX := Aside0.mk (HTA.out.trans (MTurn.below HTA.out.md HB3.out))
              obtain ⟨adK, eK, hxK⟩ := Kd.at_int (HKC.out _ HTX.out.kp) (k : Int) (by omega) (by omega)
              cases eK
              simp only [Int.toNat_natCast] at hxK
              have HR5 := Aside0.mk c3
              generalize rd keep (k : Int) = kv at hxK c3 HR5
              have c3b : decide (nn - f.kept < kv) = true := decide_eq_true c3
              have c2i : (k : Int) < (keep.length : Int) := by omega
              have HLT := Aside0.mk hlt0
              clear hlt0 c1 c2 c3
              go_wp2_with fail
              go_quiet (fail)
              have hwn : IntKind.i64.wrap (nn + 1) = nn + 1 := by rw [IntKind.wrap_i64]; have := HNN.out; have := HLT.out; omega
              go_wp2
              go_roundg k2
              case measure => have := HQ3.out; have := HNN.out; have := HLT.out; omega
              case rel => exact ⟨nn + 1, by go_num, ⟨by have := HQ3.out; have := HNN.out; have := HLT.out; omega⟩, by have := HNN.out; omega, by have := HLT.out; omega, ⟨pw_below_drewN HB3.out _⟩⟩
            · have e0 : nn = (n0 : Int) := by have := HNN.out; omega
              subst e0
              have hno := mt HST.out.2 hlt0
              have hlk : k < (crashK d2.files keep k).length := by rw [hkl0]; exact hkl
              have HLK := Aside0.mk hlk
              clear hlk hlt0
              by_cases x1 : n0 < f.data.size
              · have c1b : decide (n0 < f.data.size) = true := decide_eq_true x1
                by_cases x2 : k < keep.length
                · have c2b : decide (k < keep.length) = true := decide_eq_true x2
                  have HTX := Aside0.mk (HTA.out.trans (MTurn.below HTA.out.md HB3.out))
                  obtain ⟨adK, eK, hxK⟩ := Kd.at_int (HKC.out _ HTX.out.kp) (k : Int) (by omega) (by omega)
                  cases eK
                  simp only [Int.toNat_natCast] at hxK
                  have c3b : decide ((n0 : Int) - f.kept < rd keep (k : Int)) = false := decide_eq_false (fun h3 => hno ⟨by omega, x2, h3⟩)
                  have c2i : (k : Int) < (keep.length : Int) := by omega
                  generalize rd keep (k : Int) = kv at hxK c3b
                  clear hno x1 x2
                  go_wp2_with fail
                  go_quiet (fail)
                  have HB5 := Aside0.mk (pw_below_drewN HB3.out nq)
                  clear h1 hb0 hb1 hb2
                  generalize wr.drewN nq = W5 at HB5 ⊢
                  have h1 := below_cell0 HB5.out HH.out.1
                  have hb0 := below_cell0 HB5.out HH.out.2.1
                  have hb1 := below_cell0 HB5.out HH.out.2.2.1
                  have hb2 := below_cell0 HB5.out HH.out.2.2.2
                  have HT5 := Aside0.mk (HTA.out.trans (MTurn.below HTA.out.md HB5.out))
                  obtain ⟨g5, e5, hy0, hy1, hy2, hyf, hyl⟩ := HT5.out.md.file k HLK.out
                  injection e5 with e5
                  injection e5 with e5
                  subst e5
                  have HT6 := Aside0.mk (HT5.out.trans (MTurn.elem3 HT5.out.md k HLK.out { f with data := f.data.extract 0 n0, kept := (n0 : Int) }))
                  have HT7 := Aside0.mk (HT6.out.trans (MTurn.below HT6.out.md (below_drew (Below.refl _ _))))
                  have hf0 := hyf (k * 3)
                  have hf1 := hyf (k * 3 + 1)
                  have hf2 := hyf (k * 3 + 2)
                  go_wp2_with fail
                  go_region
                  go_wp2
                  go_roundg k1
                  case measure => have := HQ.out; omega
                  case rel => exact ⟨k + 1, by go_num, ⟨by have := HQ.out; omega⟩, by omega, ⟨by rw [HSET.out, HX9.out]; exact HT7.out⟩⟩
                · have c2b : decide (k < keep.length) = false := decide_eq_false x2
                  clear hno x1 x2
                  go_wp2_with fail
                  go_quiet (fail)
                  have HB5 := Aside0.mk (pw_below_drewN HB3.out nq)
                  clear h1 hb0 hb1 hb2
                  generalize wr.drewN nq = W5 at HB5 ⊢
                  have h1 := below_cell0 HB5.out HH.out.1
                  have hb0 := below_cell0 HB5.out HH.out.2.1
                  have hb1 := below_cell0 HB5.out HH.out.2.2.1
                  have hb2 := below_cell0 HB5.out HH.out.2.2.2
                  have HT5 := Aside0.mk (HTA.out.trans (MTurn.below HTA.out.md HB5.out))
                  obtain ⟨g5, e5, hy0, hy1, hy2, hyf, hyl⟩ := HT5.out.md.file k HLK.out
                  injection e5 with e5
                  injection e5 with e5
                  subst e5
                  have HT6 := Aside0.mk (HT5.out.trans (MTurn.elem3 HT5.out.md k HLK.out { f with data := f.data.extract 0 n0, kept := (n0 : Int) }))
                  have HT7 := Aside0.mk (HT6.out.trans (MTurn.below HT6.out.md (below_drew (Below.refl _ _))))
                  have hf0 := hyf (k * 3)
                  have hf1 := hyf (k * 3 + 1)
                  have hf2 := hyf (k * 3 + 2)
                  go_wp2_with fail
                  go_region
                  go_wp2
                  go_roundg k1
                  case measure => have := HQ.out; omega
                  case rel => exact ⟨k + 1, by go_num, ⟨by have := HQ.out; omega⟩, by omega, ⟨by rw [HSET.out, HX9.out]; exact HT7.out⟩⟩
              · have c1b : decide (n0 < f.data.size) = false := decide_eq_false x1
                clear hno x1
                go_wp2_with fail
                go_quiet (fail)
                have HB5 := Aside0.mk (pw_below_drewN HB3.out nq)
                clear h1 hb0 hb1 hb2
                generalize wr.drewN nq = W5 at HB5 ⊢
                have h1 := below_cell0 HB5.out HH.out.1
                have hb0 := below_cell0 HB5.out HH.out.2.1
                have hb1 := below_cell0 HB5.out HH.out.2.2.1
                have hb2 := below_cell0 HB5.out HH.out.2.2.2
                have HT5 := Aside0.mk (HTA.out.trans (MTurn.below HTA.out.md HB5.out))
                obtain ⟨g5, e5, hy0, hy1, hy2, hyf, hyl⟩ := HT5.out.md.file k HLK.out
                injection e5 with e5
                injection e5 with e5
                subst e5
                have HT6 := Aside0.mk (HT5.out.trans (MTurn.elem3 HT5.out.md k HLK.out { f with data := f.data.extract 0 n0, kept := (n0 : Int) }))
                have HT7 := Aside0.mk (HT6.out.trans (MTurn.below HT6.out.md (below_drew (Below.refl _ _))))
                have hf0 := hyf (k * 3)
                have hf1 := hyf (k * 3 + 1)
                have hf2 := hyf (k * 3 + 2)
                go_wp2_with fail
                go_region
                go_wp2
                go_roundg k1
                case measure => have := HQ.out; omega
                case rel => exact ⟨k + 1, by go_num, ⟨by have := HQ.out; omega⟩, by omega, ⟨by rw [HSET.out, HX9.out]; exact HT7.out⟩⟩
      · have hke : k = d2.files.length := by omega
        rw [hke] at HT
        go_wp2
        go_end0
        exact ⟨rfl, HT.out⟩
end Go.Proofs.Ytihlacambdfmfaa.PK
/- disk: the law's same, on a disk and a model of one state. -/
namespace Go.Proofs.Ytihlacambdfmfaa.PK
open Go.RowKit Go.Proofs.YtihlacambdfmfaaW.PrintWords Go.Proofs.YtihlacambdfmfaaW.PrintLast Go.Proofs.YtihlacambdfmfaaW.PrintMore
open Go.Maps
open Go.Proofs.Ytihlacambdfmfaa.PR
theorem read_at {d : DS} (hn : (d.files.map (·.name)).Nodup) (k : Nat) (hk : k < d.files.length) : readD d d.files[k].name = if d.off = true then (⟨#[]⟩, 7) else (d.files[k].data, 0) := by
  unfold readD
  rw [getF_at hn k hk]
theorem kept_at {d : DS} (hn : (d.files.map (·.name)).Nodup) (k : Nat) (hk : k < d.files.length) : keptD d d.files[k].name = d.files[k].kept := by
  unfold keptD
  rw [getF_at hn k hk]
set_option maxHeartbeats 8000000 in
set_option maxRecDepth 100000 in
theorem same_calls (g b base m : Nat) (A : Option Addr) (c : Nat) (d : DS) (w : World) (hd : Dk w g b d) (hm : Md w base m A c d) (hg : Good d) (has : Asc d.files) :
    Calls Try.prog 27 #[.pointer (some ⟨g, 0, none⟩), .pointer (some ⟨m, 0, none⟩)] w fun e w' => e = .returned (.bool true) ∧ Below w.heap.size w w' := by
  have HD := Aside0.mk hd
  have HM := Aside0.mk hm
  have HG := Aside0.mk hg
  have HNC := Aside0.mk (Names_calls g b d none 0 [] w hd has (by have := hg.count; omega) (Kd.C_nil _ _))
  rw [namesD_all] at HNC
  clear hd hm hg has
  go_enter Try.func27, Try.ntmps27
  go_wp2_with fail
  refine HNC.out.mono ?_
  rintro e w2 ⟨v, rfl, hr2, hb2⟩
  obtain ⟨Av, cv, ev⟩ := Kd.R_slice hr2
  subst ev
  have HB2 := Aside0.mk hb2
  have HD2 := Aside0.mk (HD.out.below hb2)
  have HM2 := Aside0.mk (HM.out.same fun k hk => hb2.block k (HM.out.lt k hk))
  have hnl : (namesF d.files).length = d.files.length := List.length_map _
  have HCV : Aside0 (Kd.C Kd.string w2 Av (namesF d.files).length (namesF d.files)) := ⟨(Kd.R_reads' hr2).2.2⟩
  have HNL := Aside0.mk hnl
  rw [hnl]
  clear hr2 hb2 hnl HNC HD HM
  have C0 : Aside0 (w2.cell? ⟨m, 0, none⟩ = some (.int .i64 d.room)) := ⟨HM2.out.cell 0⟩
  have C1 : Aside0 (w2.cell? ⟨m, 1, none⟩ = some (.slice A d.files.length c)) := ⟨HM2.out.cell 1⟩
  have C2 : Aside0 (w2.cell? ⟨m, 2, none⟩ = some (.bool d.off)) := ⟨HM2.out.cell 2⟩
  have C5 : Aside0 (w2.cell? ⟨m, 5, none⟩ = some (.int .i64 d.uses)) := ⟨HM2.out.cell 5⟩
  have HF0 : Aside0 (freeD d = d.room - (usedF d.files : Int)) := ⟨rfl⟩
  have HUL : Aside0 (usedF d.files ≤ 104857600) := ⟨HG.out.used⟩
  have HNF : Aside0 (∀ k (h1 : k < (namesF d.files).length) (h2 : k < d.files.length), (namesF d.files)[k] = d.files[k].name) := ⟨fun k _ _ => List.getElem_map _⟩
  have HRD : Aside0 (∀ k (hk : k < d.files.length), readD d d.files[k].name = if d.off = true then (⟨#[]⟩, 7) else (d.files[k].data, 0)) := ⟨read_at HG.out.names⟩
  have HKD : Aside0 (∀ k (hk : k < d.files.length), keptD d d.files[k].name = d.files[k].kept) := ⟨kept_at HG.out.names⟩
  obtain ⟨u, hu⟩ : ∃ u : Nat, u = usedF d.files := ⟨_, rfl⟩
  have HUU := Aside0.mk hu
  have hwr : IntKind.i64.wrap (d.room - (u : Int)) = d.room - (u : Int) := by rw [IntKind.wrap_i64]; have := HUL.out; have := HG.out.room0; have := HG.out.room1; omega
  clear hu
  obtain ⟨nl, hnl⟩ : ∃ nl : Nat, nl = d.files.length := ⟨_, rfl⟩
  have HNN := Aside0.mk hnl
  have hnl100 : nl ≤ 100 := by rw [hnl]; exact HG.out.count
  rw [← hnl] at C1 ⊢
  clear hnl
  generalize d.room = room at C0 hwr HF0
  generalize hoff : d.off = off at C2
  have HOFF := Aside0.mk hoff
  clear hoff
  generalize hus : d.uses = us at C5
  have HUS := Aside0.mk hus
  clear hus
  go_wp2_with fail
  refine start_ (n := 45) (S := fun w' => Below w2.heap.size w2 w') (ds := []) #[false, false, false, false, false, false, false, false, false, false, false, false, false, false, false, false, false, false, false, false, false, false, false, false, false, false, false, false, false, false, false, false, false, false, false, false, false, false, false, false, false, false, false, false, false] (by kernel_rfl) rfl rfl (below_drew (Below.refl _ _)) (fun hHeld => ?_)
  have HB7 := Aside0.mk hHeld
  generalize w2.drew = w7 at HB7 hHeld ⊢
  refine pure_ (i := 0) (N := some 11) (v := ?_) (a' := ?_) #[true, false, false, false, false, false, false, false, false, false, false, false, false, false, false, false, false, false, false, false, false, false, false, false, false, false, false, false, false, false, false, false, false, false, false, false, false, false, false, false, false, false, false, false, false] rfl rfl (by kernel_rfl) (fun _ _ _ h => h) (Or.inl ⟨by rfl, ?_⟩) ?_ ?_
  rotate_left
  · intro w'
    go_simp
    with_reducible rfl
  rotate_left
  · simp only [Act.put, List.setIfInBounds_toArray, List.set_cons_zero, List.set_cons_succ, i64_w, i32_w]
    rfl
  refine pure_ (i := 2) (N := some 13) (v := ?_) (a' := ?_) #[true, false, true, false, false, false, false, false, false, false, false, false, false, false, false, false, false, false, false, false, false, false, false, false, false, false, false, false, false, false, false, false, false, false, false, false, false, false, false, false, false, false, false, false, false] rfl rfl (by kernel_rfl) (fun _ _ _ h => h) (Or.inl ⟨by rfl, ?_⟩) ?_ ?_
  rotate_left
  · intro w'
    go_simp
    with_reducible rfl
  rotate_left
  · simp only [Act.put, List.setIfInBounds_toArray, List.set_cons_zero, List.set_cons_succ, i64_w, i32_w]
    rfl
  refine pure_ (i := 3) (N := some 14) (v := ?_) (a' := ?_) #[true, false, true, true, false, false, false, false, false, false, false, false, false, false, false, false, false, false, false, false, false, false, false, false, false, false, false, false, false, false, false, false, false, false, false, false, false, false, false, false, false, false, false, false, false] rfl rfl (by kernel_rfl) (fun _ _ _ h => h) (Or.inl ⟨by rfl, ?_⟩) ?_ ?_
  rotate_left
  · intro w'
    go_simp
    with_reducible rfl
  rotate_left
  · simp only [Act.put, List.setIfInBounds_toArray, List.set_cons_zero, List.set_cons_succ, i64_w, i32_w]
    rfl
  refine pure_ (i := 4) (N := some 15) (v := ?_) (a' := ?_) #[true, false, true, true, true, false, false, false, false, false, false, false, false, false, false, false, false, false, false, false, false, false, false, false, false, false, false, false, false, false, false, false, false, false, false, false, false, false, false, false, false, false, false, false, false] rfl rfl (by kernel_rfl) (fun _ _ _ h => h) (Or.inl ⟨by rfl, ?_⟩) ?_ ?_
  rotate_left
  · intro w'
    go_simp
    with_reducible rfl
  rotate_left
  · simp only [Act.put, List.setIfInBounds_toArray, List.set_cons_zero, List.set_cons_succ, i64_w, i32_w]
    rfl
  refine take_ (i := 5) (N := some 16) (v := ?_) (a' := ?_) #[true, false, true, true, true, true, false, false, false, false, false, false, false, false, false, false, false, false, false, false, false, false, false, false, false, false, false, false, false, false, false, false, false, false, false, false, false, false, false, false, false, false, false, false, false] rfl rfl (by kernel_rfl) (fun _ _ _ h => h) (Or.inl ⟨by rfl, ?_⟩) hHeld ?_ ?_
  rotate_left
  · rintro w' hS
    have hcl := below_cell0 hS C2.out
    clear hS
    go_simp
    with_reducible rfl
  rotate_left
  · simp only [Act.put, List.setIfInBounds_toArray, List.set_cons_zero, List.set_cons_succ, i64_w, i32_w]
    rfl
  refine one_ (i := 1) (N := some 12) #[true, true, true, true, true, true, false, false, false, false, false, false, false, false, false, false, false, false, false, false, false, false, false, false, false, false, false, false, false, false, false, false, false, false, false, false, false, false, false, false, false, false, false, false, false] rfl rfl (by kernel_rfl) (by decide) (fun K hK => ?_)
  refine goes_ Try.func29 (by kernel_rfl) rfl #[.pointer (some ⟨g, 0, none⟩)] (by rfl) rfl rfl (by (try simp only [List.map_toArray, List.map_cons, List.map_nil]); first | done | rfl) ?_
  refine (On_calls g b d w7 (HD2.out.below HB7.out)).mono ?_
  rintro e w8 ⟨rfl, rfl⟩
  rw [HOFF.out]
  refine ⟨_, rfl, ?_⟩
  refine hK.out _ _ hHeld (fun hHeld => ?_)
  clear hK K
  refine norm_ (a' := ?_) ?_ ?_
  rotate_left
  · show Act.put _ (some 12) _ = _
    simp only [Act.put, List.setIfInBounds_toArray, List.set_cons_zero, List.set_cons_succ, i64_w, i32_w]
    rfl
  refine pure_ (i := 6) (N := some 17) (v := ?_) (a' := ?_) #[true, true, true, true, true, true, true, false, false, false, false, false, false, false, false, false, false, false, false, false, false, false, false, false, false, false, false, false, false, false, false, false, false, false, false, false, false, false, false, false, false, false, false, false, false] rfl rfl (by kernel_rfl) (fun _ _ _ h => h) (Or.inl ⟨by rfl, ?_⟩) ?_ ?_
  rotate_left
  · intro w'
    go_simp
    with_reducible rfl
  rotate_left
  · simp only [Act.put, List.setIfInBounds_toArray, List.set_cons_zero, List.set_cons_succ, i64_w, i32_w]
    rfl
  refine pure_ (i := 7) (N := some 18) (v := ?_) (a' := ?_) #[true, true, true, true, true, true, true, true, false, false, false, false, false, false, false, false, false, false, false, false, false, false, false, false, false, false, false, false, false, false, false, false, false, false, false, false, false, false, false, false, false, false, false, false, false] rfl rfl (by kernel_rfl) (fun _ _ _ h => h) (Or.inl ⟨by rfl, ?_⟩) ?_ ?_
  rotate_left
  · intro w'
    go_simp
    with_reducible rfl
  rotate_left
  · simp only [Act.put, List.setIfInBounds_toArray, List.set_cons_zero, List.set_cons_succ, i64_w, i32_w]
    rfl
  refine pure_ (i := 8) (N := some 19) (v := ?_) (a' := ?_) #[true, true, true, true, true, true, true, true, true, false, false, false, false, false, false, false, false, false, false, false, false, false, false, false, false, false, false, false, false, false, false, false, false, false, false, false, false, false, false, false, false, false, false, false, false] rfl rfl (by kernel_rfl) (fun _ _ _ h => h) (Or.inl ⟨by rfl, ?_⟩) ?_ ?_
  rotate_left
  · intro w'
    go_simp
    with_reducible rfl
  rotate_left
  · simp only [Act.put, List.setIfInBounds_toArray, List.set_cons_zero, List.set_cons_succ, i64_w, i32_w]
    rfl
  refine pure_ (i := 10) (N := some 21) (v := ?_) (a' := ?_) #[true, true, true, true, true, true, true, true, true, false, true, false, false, false, false, false, false, false, false, false, false, false, false, false, false, false, false, false, false, false, false, false, false, false, false, false, false, false, false, false, false, false, false, false, false] rfl rfl (by kernel_rfl) (fun _ _ _ h => h) (Or.inl ⟨by rfl, ?_⟩) ?_ ?_
  rotate_left
  · intro w'
    go_simp
    with_reducible rfl
  rotate_left
  · simp only [Act.put, List.setIfInBounds_toArray, List.set_cons_zero, List.set_cons_succ, i64_w, i32_w]
    rfl
  refine one_ (i := 9) (N := some 20) #[true, true, true, true, true, true, true, true, true, true, true, false, false, false, false, false, false, false, false, false, false, false, false, false, false, false, false, false, false, false, false, false, false, false, false, false, false, false, false, false, false, false, false, false, false] rfl rfl (by kernel_rfl) (by decide) (fun K hK => ?_)
  refine goes_ Try.func16 (by kernel_rfl) rfl #[.pointer (some ⟨g, 0, none⟩)] (by rfl) rfl rfl (by (try simp only [List.map_toArray, List.map_cons, List.map_nil]); first | done | rfl) ?_
  refine (Used_calls g b d w7 (HD2.out.below HB7.out) HG.out.names (by have := HUL.out; omega)).mono ?_
  rintro e w8 ⟨rfl, hb8⟩
  have HB8 := Aside0.mk (below_step HB7.out hb8)
  have hh8 := HB8.out
  clear hb8 hHeld
  refine ⟨_, rfl, ?_⟩
  refine hK.out _ _ hh8 (fun hHeld => ?_)
  clear hK K
  refine norm_ (a' := ?_) ?_ ?_
  rotate_left
  · show Act.put _ (some 20) _ = _
    simp only [Act.put, List.setIfInBounds_toArray, List.set_cons_zero, List.set_cons_succ, i64_w, i32_w]
    rfl
  refine one_ (i := 11) (N := some 22) #[true, true, true, true, true, true, true, true, true, true, true, true, false, false, false, false, false, false, false, false, false, false, false, false, false, false, false, false, false, false, false, false, false, false, false, false, false, false, false, false, false, false, false, false, false] rfl rfl (by kernel_rfl) (by decide) (fun K hK => ?_)
  refine goes_ Try.func51 (by kernel_rfl) rfl #[.pointer (some ⟨m, 0, none⟩)] (by rfl) rfl rfl (by (try simp only [List.map_toArray, List.map_cons, List.map_nil]); first | done | rfl) ?_
  refine (used_calls base m A c d w8 (HM2.out.same fun k hk => HB8.out.block k (HM2.out.lt k hk)) (by have := HUL.out; omega)).mono ?_
  rintro e w8' ⟨rfl, rfl⟩
  refine ⟨_, rfl, ?_⟩
  refine hK.out _ _ hHeld (fun hHeld => ?_)
  clear hK K
  refine norm_ (a' := ?_) ?_ ?_
  rotate_left
  · show Act.put _ (some 22) _ = _
    simp only [Act.put, List.setIfInBounds_toArray, List.set_cons_zero, List.set_cons_succ, i64_w, i32_w]
    rfl
  refine pure_ (i := 12) (N := some 23) (v := ?_) (a' := ?_) #[true, true, true, true, true, true, true, true, true, true, true, true, true, false, false, false, false, false, false, false, false, false, false, false, false, false, false, false, false, false, false, false, false, false, false, false, false, false, false, false, false, false, false, false, false] rfl rfl (by kernel_rfl) (fun _ _ _ h => h) (Or.inl ⟨by rfl, ?_⟩) ?_ ?_
  rotate_left
  · intro w'
    go_simp
    with_reducible rfl
  rotate_left
  · simp only [Act.put, List.setIfInBounds_toArray, List.set_cons_zero, List.set_cons_succ, i64_w, i32_w]
    rfl
  refine pure_ (i := 13) (N := some 24) (v := ?_) (a' := ?_) #[true, true, true, true, true, true, true, true, true, true, true, true, true, true, false, false, false, false, false, false, false, false, false, false, false, false, false, false, false, false, false, false, false, false, false, false, false, false, false, false, false, false, false, false, false] rfl rfl (by kernel_rfl) (fun _ _ _ h => h) (Or.inl ⟨by rfl, ?_⟩) ?_ ?_
  rotate_left
  · intro w'
    go_simp
    with_reducible rfl
  rotate_left
  · simp only [Act.put, List.setIfInBounds_toArray, List.set_cons_zero, List.set_cons_succ, i64_w, i32_w]
    rfl
  refine pure_ (i := 14) (N := some 25) (v := ?_) (a' := ?_) #[true, true, true, true, true, true, true, true, true, true, true, true, true, true, true, false, false, false, false, false, false, false, false, false, false, false, false, false, false, false, false, false, false, false, false, false, false, false, false, false, false, false, false, false, false] rfl rfl (by kernel_rfl) (fun _ _ _ h => h) (Or.inl ⟨by rfl, ?_⟩) ?_ ?_
  rotate_left
  · intro w'
    go_simp
    with_reducible rfl
  rotate_left
  · simp only [Act.put, List.setIfInBounds_toArray, List.set_cons_zero, List.set_cons_succ, i64_w, i32_w]
    rfl
  refine pure_ (i := 15) (N := some 26) (v := ?_) (a' := ?_) #[true, true, true, true, true, true, true, true, true, true, true, true, true, true, true, true, false, false, false, false, false, false, false, false, false, false, false, false, false, false, false, false, false, false, false, false, false, false, false, false, false, false, false, false, false] rfl rfl (by kernel_rfl) (fun _ _ _ h => h) (Or.inl ⟨by rfl, ?_⟩) ?_ ?_
  rotate_left
  · intro w'
    go_simp
    with_reducible rfl
  rotate_left
  · simp only [Act.put, List.setIfInBounds_toArray, List.set_cons_zero, List.set_cons_succ, i64_w, i32_w]
    rfl
  refine pure_ (i := 17) (N := some 28) (v := ?_) (a' := ?_) #[true, true, true, true, true, true, true, true, true, true, true, true, true, true, true, true, false, true, false, false, false, false, false, false, false, false, false, false, false, false, false, false, false, false, false, false, false, false, false, false, false, false, false, false, false] rfl rfl (by kernel_rfl) (fun _ _ _ h => h) (Or.inl ⟨by rfl, ?_⟩) ?_ ?_
  rotate_left
  · intro w'
    go_simp
    with_reducible rfl
  rotate_left
  · simp only [Act.put, List.setIfInBounds_toArray, List.set_cons_zero, List.set_cons_succ, i64_w, i32_w]
    rfl
  refine pure_ (i := 18) (N := some 29) (v := ?_) (a' := ?_) #[true, true, true, true, true, true, true, true, true, true, true, true, true, true, true, true, false, true, true, false, false, false, false, false, false, false, false, false, false, false, false, false, false, false, false, false, false, false, false, false, false, false, false, false, false] rfl rfl (by kernel_rfl) (fun _ _ _ h => h) (Or.inl ⟨by rfl, ?_⟩) ?_ ?_
  rotate_left
  · intro w'
    go_simp
    with_reducible rfl
  rotate_left
  · simp only [Act.put, List.setIfInBounds_toArray, List.set_cons_zero, List.set_cons_succ, i64_w, i32_w]
    rfl
  refine pure_ (i := 19) (N := some 30) (v := ?_) (a' := ?_) #[true, true, true, true, true, true, true, true, true, true, true, true, true, true, true, true, false, true, true, true, false, false, false, false, false, false, false, false, false, false, false, false, false, false, false, false, false, false, false, false, false, false, false, false, false] rfl rfl (by kernel_rfl) (fun _ _ _ h => h) (Or.inl ⟨by rfl, ?_⟩) ?_ ?_
  rotate_left
  · intro w'
    go_simp
    with_reducible rfl
  rotate_left
  · simp only [Act.put, List.setIfInBounds_toArray, List.set_cons_zero, List.set_cons_succ, i64_w, i32_w]
    rfl
  refine take_ (i := 20) (N := some 31) (v := ?_) (a' := ?_) #[true, true, true, true, true, true, true, true, true, true, true, true, true, true, true, true, false, true, true, true, true, false, false, false, false, false, false, false, false, false, false, false, false, false, false, false, false, false, false, false, false, false, false, false, false] rfl rfl (by kernel_rfl) (fun _ _ _ h => h) (Or.inl ⟨by rfl, ?_⟩) hHeld ?_ ?_
  rotate_left
  · rintro w' hS
    have hcl := below_cell0 hS C0.out
    clear hS
    go_simp
    with_reducible rfl
  rotate_left
  · simp only [Act.put, List.setIfInBounds_toArray, List.set_cons_zero, List.set_cons_succ, i64_w, i32_w]
    rfl
  refine pure_ (i := 21) (N := some 32) (v := ?_) (a' := ?_) #[true, true, true, true, true, true, true, true, true, true, true, true, true, true, true, true, false, true, true, true, true, true, false, false, false, false, false, false, false, false, false, false, false, false, false, false, false, false, false, false, false, false, false, false, false] rfl rfl (by kernel_rfl) (fun _ _ _ h => h) (Or.inl ⟨by rfl, ?_⟩) ?_ ?_
  rotate_left
  · intro w'
    go_simp
    with_reducible rfl
  rotate_left
  · simp only [Act.put, List.setIfInBounds_toArray, List.set_cons_zero, List.set_cons_succ, i64_w, i32_w]
    rfl
  refine one_ (i := 16) (N := some 27) #[true, true, true, true, true, true, true, true, true, true, true, true, true, true, true, true, true, true, true, true, true, true, false, false, false, false, false, false, false, false, false, false, false, false, false, false, false, false, false, false, false, false, false, false, false] rfl rfl (by kernel_rfl) (by decide) (fun K hK => ?_)
  refine goes_ Try.func31 (by kernel_rfl) rfl #[.pointer (some ⟨g, 0, none⟩)] (by rfl) rfl rfl (by (try simp only [List.map_toArray, List.map_cons, List.map_nil]); first | done | rfl) ?_
  refine (Free_calls g b d w8 (HD2.out.below HB8.out) HG.out).mono ?_
  rintro e w9 ⟨rfl, hb8⟩
  have HB9 := Aside0.mk (below_step HB8.out hb8)
  have hh9 := HB9.out
  clear hb8 hHeld
  rw [HF0.out, ← HUU.out]
  refine ⟨_, rfl, ?_⟩
  refine hK.out _ _ hh9 (fun hHeld => ?_)
  clear hK K
  refine norm_ (a' := ?_) ?_ ?_
  rotate_left
  · show Act.put _ (some 27) _ = _
    simp only [Act.put, List.setIfInBounds_toArray, List.set_cons_zero, List.set_cons_succ, i64_w, i32_w]
    rfl
  refine one_ (i := 22) (N := some 33) #[true, true, true, true, true, true, true, true, true, true, true, true, true, true, true, true, true, true, true, true, true, true, true, false, false, false, false, false, false, false, false, false, false, false, false, false, false, false, false, false, false, false, false, false, false] rfl rfl (by kernel_rfl) (by decide) (fun K hK => ?_)
  refine goes_ Try.func51 (by kernel_rfl) rfl #[.pointer (some ⟨m, 0, none⟩)] (by rfl) rfl rfl (by (try simp only [List.map_toArray, List.map_cons, List.map_nil]); first | done | rfl) ?_
  refine (used_calls base m A c d w9 (HM2.out.same fun k hk => HB9.out.block k (HM2.out.lt k hk)) (by have := HUL.out; omega)).mono ?_
  rintro e w8' ⟨rfl, rfl⟩
  rw [← HUU.out]
  refine ⟨_, rfl, ?_⟩
  refine hK.out _ _ hHeld (fun hHeld => ?_)
  clear hK K
  refine norm_ (a' := ?_) ?_ ?_
  rotate_left
  · show Act.put _ (some 33) _ = _
    simp only [Act.put, List.setIfInBounds_toArray, List.set_cons_zero, List.set_cons_succ, i64_w, i32_w]
    rfl
  refine pure_ (i := 23) (N := some 34) (v := ?_) (a' := ?_) #[true, true, true, true, true, true, true, true, true, true, true, true, true, true, true, true, true, true, true, true, true, true, true, true, false, false, false, false, false, false, false, false, false, false, false, false, false, false, false, false, false, false, false, false, false] rfl rfl (by kernel_rfl) (fun _ _ _ h => h) (Or.inl ⟨by rfl, ?_⟩) ?_ ?_
  rotate_left
  · intro w'
    go_simp
    with_reducible rfl
  rotate_left
  · simp only [Act.put, List.setIfInBounds_toArray, List.set_cons_zero, List.set_cons_succ, i64_w, i32_w]
    rfl
  refine pure_ (i := 24) (N := some 35) (v := ?_) (a' := ?_) #[true, true, true, true, true, true, true, true, true, true, true, true, true, true, true, true, true, true, true, true, true, true, true, true, true, false, false, false, false, false, false, false, false, false, false, false, false, false, false, false, false, false, false, false, false] rfl rfl (by kernel_rfl) (fun _ _ _ h => h) (Or.inl ⟨by rfl, ?_⟩) ?_ ?_
  rotate_left
  · intro w'
    go_simp
    with_reducible rfl
  rotate_left
  · simp only [Act.put, List.setIfInBounds_toArray, List.set_cons_zero, List.set_cons_succ, i64_w, i32_w]
    rfl
  refine pure_ (i := 25) (N := some 36) (v := ?_) (a' := ?_) #[true, true, true, true, true, true, true, true, true, true, true, true, true, true, true, true, true, true, true, true, true, true, true, true, true, true, false, false, false, false, false, false, false, false, false, false, false, false, false, false, false, false, false, false, false] rfl rfl (by kernel_rfl) (fun _ _ _ h => h) (Or.inl ⟨by rfl, ?_⟩) ?_ ?_
  rotate_left
  · intro w'
    go_simp
    with_reducible rfl
  rotate_left
  · simp only [Act.put, List.setIfInBounds_toArray, List.set_cons_zero, List.set_cons_succ, i64_w, i32_w]
    rfl
  refine pure_ (i := 26) (N := some 37) (v := ?_) (a' := ?_) #[true, true, true, true, true, true, true, true, true, true, true, true, true, true, true, true, true, true, true, true, true, true, true, true, true, true, true, false, false, false, false, false, false, false, false, false, false, false, false, false, false, false, false, false, false] rfl rfl (by kernel_rfl) (fun _ _ _ h => h) (Or.inl ⟨by rfl, ?_⟩) ?_ ?_
  rotate_left
  · intro w'
    go_simp
    with_reducible rfl
  rotate_left
  · simp only [Act.put, List.setIfInBounds_toArray, List.set_cons_zero, List.set_cons_succ, i64_w, i32_w]
    rfl
  refine pure_ (i := 27) (N := some 38) (v := ?_) (a' := ?_) #[true, true, true, true, true, true, true, true, true, true, true, true, true, true, true, true, true, true, true, true, true, true, true, true, true, true, true, true, false, false, false, false, false, false, false, false, false, false, false, false, false, false, false, false, false] rfl rfl (by kernel_rfl) (fun _ _ _ h => h) (Or.inl ⟨by rfl, ?_⟩) ?_ ?_
  rotate_left
  · intro w'
    go_simp
    with_reducible rfl
  rotate_left
  · simp only [Act.put, List.setIfInBounds_toArray, List.set_cons_zero, List.set_cons_succ, i64_w, i32_w]
    rfl
  refine pure_ (i := 29) (N := some 40) (v := ?_) (a' := ?_) #[true, true, true, true, true, true, true, true, true, true, true, true, true, true, true, true, true, true, true, true, true, true, true, true, true, true, true, true, false, true, false, false, false, false, false, false, false, false, false, false, false, false, false, false, false] rfl rfl (by kernel_rfl) (fun _ _ _ h => h) (Or.inl ⟨by rfl, ?_⟩) ?_ ?_
  rotate_left
  · intro w'
    go_simp
    with_reducible rfl
  rotate_left
  · simp only [Act.put, List.setIfInBounds_toArray, List.set_cons_zero, List.set_cons_succ, i64_w, i32_w]
    rfl
  refine pure_ (i := 30) (N := some 41) (v := ?_) (a' := ?_) #[true, true, true, true, true, true, true, true, true, true, true, true, true, true, true, true, true, true, true, true, true, true, true, true, true, true, true, true, false, true, true, false, false, false, false, false, false, false, false, false, false, false, false, false, false] rfl rfl (by kernel_rfl) (fun _ _ _ h => h) (Or.inl ⟨by rfl, ?_⟩) ?_ ?_
  rotate_left
  · intro w'
    go_simp
    with_reducible rfl
  rotate_left
  · simp only [Act.put, List.setIfInBounds_toArray, List.set_cons_zero, List.set_cons_succ, i64_w, i32_w]
    rfl
  refine pure_ (i := 31) (N := some 42) (v := ?_) (a' := ?_) #[true, true, true, true, true, true, true, true, true, true, true, true, true, true, true, true, true, true, true, true, true, true, true, true, true, true, true, true, false, true, true, true, false, false, false, false, false, false, false, false, false, false, false, false, false] rfl rfl (by kernel_rfl) (fun _ _ _ h => h) (Or.inl ⟨by rfl, ?_⟩) ?_ ?_
  rotate_left
  · intro w'
    go_simp
    with_reducible rfl
  rotate_left
  · simp only [Act.put, List.setIfInBounds_toArray, List.set_cons_zero, List.set_cons_succ, i64_w, i32_w]
    rfl
  refine take_ (i := 32) (N := some 43) (v := ?_) (a' := ?_) #[true, true, true, true, true, true, true, true, true, true, true, true, true, true, true, true, true, true, true, true, true, true, true, true, true, true, true, true, false, true, true, true, true, false, false, false, false, false, false, false, false, false, false, false, false] rfl rfl (by kernel_rfl) (fun _ _ _ h => h) (Or.inl ⟨by rfl, ?_⟩) hHeld ?_ ?_
  rotate_left
  · rintro w' hS
    have hcl := below_cell0 hS C5.out
    clear hS
    go_simp
    with_reducible rfl
  rotate_left
  · simp only [Act.put, List.setIfInBounds_toArray, List.set_cons_zero, List.set_cons_succ, i64_w, i32_w]
    rfl
  refine one_ (i := 28) (N := some 39) #[true, true, true, true, true, true, true, true, true, true, true, true, true, true, true, true, true, true, true, true, true, true, true, true, true, true, true, true, true, true, true, true, true, false, false, false, false, false, false, false, false, false, false, false, false] rfl rfl (by kernel_rfl) (by decide) (fun K hK => ?_)
  refine goes_ Try.func30 (by kernel_rfl) rfl #[.pointer (some ⟨g, 0, none⟩)] (by rfl) rfl rfl (by (try simp only [List.map_toArray, List.map_cons, List.map_nil]); first | done | rfl) ?_
  refine (Uses_calls g b d w9 (HD2.out.below HB9.out)).mono ?_
  rintro e w8' ⟨rfl, rfl⟩
  rw [HUS.out]
  refine ⟨_, rfl, ?_⟩
  refine hK.out _ _ hHeld (fun hHeld => ?_)
  clear hK K
  refine norm_ (a' := ?_) ?_ ?_
  rotate_left
  · show Act.put _ (some 39) _ = _
    simp only [Act.put, List.setIfInBounds_toArray, List.set_cons_zero, List.set_cons_succ, i64_w, i32_w]
    rfl
  refine pure_ (i := 33) (N := some 44) (v := ?_) (a' := ?_) #[true, true, true, true, true, true, true, true, true, true, true, true, true, true, true, true, true, true, true, true, true, true, true, true, true, true, true, true, true, true, true, true, true, true, false, false, false, false, false, false, false, false, false, false, false] rfl rfl (by kernel_rfl) (fun _ _ _ h => h) (Or.inl ⟨by rfl, ?_⟩) ?_ ?_
  rotate_left
  · intro w'
    go_simp
    with_reducible rfl
  rotate_left
  · simp only [Act.put, List.setIfInBounds_toArray, List.set_cons_zero, List.set_cons_succ, i64_w, i32_w]
    rfl
  refine pure_ (i := 34) (N := some 45) (v := ?_) (a' := ?_) #[true, true, true, true, true, true, true, true, true, true, true, true, true, true, true, true, true, true, true, true, true, true, true, true, true, true, true, true, true, true, true, true, true, true, true, false, false, false, false, false, false, false, false, false, false] rfl rfl (by kernel_rfl) (fun _ _ _ h => h) (Or.inl ⟨by rfl, ?_⟩) ?_ ?_
  rotate_left
  · intro w'
    go_simp
    with_reducible rfl
  rotate_left
  · simp only [Act.put, List.setIfInBounds_toArray, List.set_cons_zero, List.set_cons_succ, i64_w, i32_w]
    rfl
  refine pure_ (i := 35) (N := some 46) (v := ?_) (a' := ?_) #[true, true, true, true, true, true, true, true, true, true, true, true, true, true, true, true, true, true, true, true, true, true, true, true, true, true, true, true, true, true, true, true, true, true, true, true, false, false, false, false, false, false, false, false, false] rfl rfl (by kernel_rfl) (fun _ _ _ h => h) (Or.inl ⟨by rfl, ?_⟩) ?_ ?_
  rotate_left
  · intro w'
    go_simp
    with_reducible rfl
  rotate_left
  · simp only [Act.put, List.setIfInBounds_toArray, List.set_cons_zero, List.set_cons_succ, i64_w, i32_w]
    rfl
  refine pure_ (i := 36) (N := some 47) (v := ?_) (a' := ?_) #[true, true, true, true, true, true, true, true, true, true, true, true, true, true, true, true, true, true, true, true, true, true, true, true, true, true, true, true, true, true, true, true, true, true, true, true, true, false, false, false, false, false, false, false, false] rfl rfl (by kernel_rfl) (fun _ _ _ h => h) (Or.inl ⟨by rfl, ?_⟩) ?_ ?_
  rotate_left
  · intro w'
    go_simp
    with_reducible rfl
  rotate_left
  · simp only [Act.put, List.setIfInBounds_toArray, List.set_cons_zero, List.set_cons_succ, i64_w, i32_w]
    rfl
  refine pure_ (i := 37) (N := some 48) (v := ?_) (a' := ?_) #[true, true, true, true, true, true, true, true, true, true, true, true, true, true, true, true, true, true, true, true, true, true, true, true, true, true, true, true, true, true, true, true, true, true, true, true, true, true, false, false, false, false, false, false, false] rfl rfl (by kernel_rfl) (fun _ _ _ h => h) (Or.inl ⟨by rfl, ?_⟩) ?_ ?_
  rotate_left
  · intro w'
    go_simp
    with_reducible rfl
  rotate_left
  · simp only [Act.put, List.setIfInBounds_toArray, List.set_cons_zero, List.set_cons_succ, i64_w, i32_w]
    rfl
  refine pure_ (i := 38) (N := some 49) (v := ?_) (a' := ?_) #[true, true, true, true, true, true, true, true, true, true, true, true, true, true, true, true, true, true, true, true, true, true, true, true, true, true, true, true, true, true, true, true, true, true, true, true, true, true, true, false, false, false, false, false, false] rfl rfl (by kernel_rfl) (fun _ _ _ h => h) (Or.inl ⟨by rfl, ?_⟩) ?_ ?_
  rotate_left
  · intro w'
    go_simp
    with_reducible rfl
  rotate_left
  · simp only [Act.put, List.setIfInBounds_toArray, List.set_cons_zero, List.set_cons_succ, i64_w, i32_w]
    rfl
  refine pure_ (i := 39) (N := some 50) (v := ?_) (a' := ?_) #[true, true, true, true, true, true, true, true, true, true, true, true, true, true, true, true, true, true, true, true, true, true, true, true, true, true, true, true, true, true, true, true, true, true, true, true, true, true, true, true, false, false, false, false, false] rfl rfl (by kernel_rfl) (fun _ _ _ h => h) (Or.inl ⟨by rfl, ?_⟩) ?_ ?_
  rotate_left
  · intro w'
    go_simp
    with_reducible rfl
  rotate_left
  · simp only [Act.put, List.setIfInBounds_toArray, List.set_cons_zero, List.set_cons_succ, i64_w, i32_w]
    rfl
  refine pure_ (i := 40) (N := some 51) (v := ?_) (a' := ?_) #[true, true, true, true, true, true, true, true, true, true, true, true, true, true, true, true, true, true, true, true, true, true, true, true, true, true, true, true, true, true, true, true, true, true, true, true, true, true, true, true, true, false, false, false, false] rfl rfl (by kernel_rfl) (fun _ _ _ h => h) (Or.inl ⟨by rfl, ?_⟩) ?_ ?_
  rotate_left
  · intro w'
    go_simp
    with_reducible rfl
  rotate_left
  · simp only [Act.put, List.setIfInBounds_toArray, List.set_cons_zero, List.set_cons_succ, i64_w, i32_w]
    rfl
  refine take_ (i := 41) (N := some 52) (v := ?_) (a' := ?_) #[true, true, true, true, true, true, true, true, true, true, true, true, true, true, true, true, true, true, true, true, true, true, true, true, true, true, true, true, true, true, true, true, true, true, true, true, true, true, true, true, true, true, false, false, false] rfl rfl (by kernel_rfl) (fun _ _ _ h => h) (Or.inl ⟨by rfl, ?_⟩) hHeld ?_ ?_
  rotate_left
  · rintro w' hS
    have hcl := below_cell0 hS C1.out
    clear hS
    go_simp
    with_reducible rfl
  rotate_left
  · simp only [Act.put, List.setIfInBounds_toArray, List.set_cons_zero, List.set_cons_succ, i64_w, i32_w]
    rfl
  refine pure_ (i := 42) (N := some 53) (v := ?_) (a' := ?_) #[true, true, true, true, true, true, true, true, true, true, true, true, true, true, true, true, true, true, true, true, true, true, true, true, true, true, true, true, true, true, true, true, true, true, true, true, true, true, true, true, true, true, true, false, false] rfl rfl (by kernel_rfl) (fun _ _ _ h => h) (Or.inl ⟨by rfl, ?_⟩) ?_ ?_
  rotate_left
  · intro w'
    go_simp
    with_reducible rfl
  rotate_left
  · simp only [Act.put, List.setIfInBounds_toArray, List.set_cons_zero, List.set_cons_succ, i64_w, i32_w]
    rfl
  refine pure_ (i := 43) (N := some 54) (v := ?_) (a' := ?_) #[true, true, true, true, true, true, true, true, true, true, true, true, true, true, true, true, true, true, true, true, true, true, true, true, true, true, true, true, true, true, true, true, true, true, true, true, true, true, true, true, true, true, true, true, false] rfl rfl (by kernel_rfl) (fun _ _ _ h => h) (Or.inl ⟨by rfl, ?_⟩) ?_ ?_
  rotate_left
  · intro w'
    go_simp
    with_reducible rfl
  rotate_left
  · simp only [Act.put, List.setIfInBounds_toArray, List.set_cons_zero, List.set_cons_succ, i64_w, i32_w]
    rfl
  refine pure_ (i := 44) (N := some 55) (v := ?_) (a' := ?_) #[true, true, true, true, true, true, true, true, true, true, true, true, true, true, true, true, true, true, true, true, true, true, true, true, true, true, true, true, true, true, true, true, true, true, true, true, true, true, true, true, true, true, true, true, true] rfl rfl (by kernel_rfl) (fun _ _ _ h => h) (Or.inl ⟨by rfl, ?_⟩) ?_ ?_
  rotate_left
  · intro w'
    go_simp
    with_reducible rfl
  rotate_left
  · simp only [Act.put, List.setIfInBounds_toArray, List.set_cons_zero, List.set_cons_succ, i64_w, i32_w]
    rfl
  refine done_ (by kernel_rfl) ?_
  go_wp2_with fail
  go_loopg [6, 7, 8] (nl + 1) (fun kq v6 _ _ w' => ∃ i : Nat, v6 = .int .i64 i ∧ Aside0 (i + kq = nl + 1) ∧ i ≤ nl ∧ Aside0 (Below w2.heap.size w2 w'))
  case atStart => exact ⟨0, rfl, ⟨by omega⟩, Nat.zero_le _, HB9⟩
  case round =>
    clear hHeld
    obtain ⟨i, rfl, HQ, hi, HB⟩ := hrel
    cases gk with
    | zero => exact absurd HQ.out (by omega)
    | succ k1 =>
      by_cases hin : i < nl
      · have HI2 : Aside0 (i < d.files.length) := ⟨by rw [← HNN.out]; exact hin⟩
        have HI1 : Aside0 (i < (namesF d.files).length) := ⟨by rw [HNL.out]; exact HI2.out⟩
        have hCV := Kd.C_below HCV.out HB.out
        obtain ⟨ad, eA, hx⟩ := Kd.at_string hCV (i : Int) (by omega) (by have := HI1.out; omega)
        cases eA
        rw [rdS_at _ i HI1.out, HNF.out i HI1.out HI2.out] at hx
        simp only [Int.toNat_natCast] at hx
        have HDR := Aside0.mk (HD2.out.below HB.out)
        have HMR := Aside0.mk (HM2.out.same fun k hk => HB.out.block k (HM2.out.lt k hk))
        obtain ⟨g5, e5, hy0, hy1, hy2, hyf, hyl⟩ := HMR.out.file i HI2.out
        subst e5
        have hm1 := below_cell0 HB.out C1.out
        have hm2 := below_cell0 HB.out C2.out
        have hrd := HRD.out i HI2.out
        have hkd := HKD.out i HI2.out
        have HSZ := Aside0.mk (HG.out.each (d.files[i]'HI2.out) (List.getElem_mem HI2.out)).2.1
        rw [HOFF.out] at hrd
        have hnz : (nl : Int) = (nl : Int) := rfl
        clear hnz
        obtain ⟨f, hf⟩ : ∃ f, f = d.files[i]'HI2.out := ⟨_, rfl⟩
        rw [← hf] at hx hy0 hy1 hy2 hrd hkd HSZ
        clear hf hCV hyf hyl
        have HRC := Aside0.mk (Read_calls g b d f.name wr HDR.out (by have := HSZ.out; omega))
        have HKC : Aside0 (∀ q, Calls Try.prog 32 #[.pointer (some ⟨g, 0, none⟩), .string f.name] (wr.drewN q) fun e w' => e = .returned (.int .i64 f.kept) ∧ ∃ q2, w' = wr.drewN q2) := ⟨fun q => (Kept_calls g b d f.name (wr.drewN q) (HDR.out.below (pw_below_drewN (Below.refl _ _) q)) (by have := HSZ.out; omega)).mono (fun e w' hw => ⟨by rw [hw.1, hkd], q, hw.2.symm⟩)⟩
        have HRR := Aside0.mk hrd
        clear hrd hkd
        cases off with
        | true =>
          have HR2 : Aside0 (readD d f.name = (⟨#[]⟩, 7)) := ⟨by rw [HRR.out]; rfl⟩
          rw [HR2.out] at HRC
          clear HRR
          go_wp2_with fail
          refine HRC.out.mono ?_
          rintro e w8 ⟨rfl, rfl⟩
          go_wp2_with fail
          go_quiet (first | (go_at_call 32; (refine (HKC.out _).mono ?_); rintro e w' ⟨rfl, ⟨nd, rfl⟩⟩; (try first | exact ⟨rfl, _, rfl⟩ | exact ⟨rfl, _, World.drewN_drewN _ _ _⟩)))
          go_wp2
          go_roundg k1
          case measure => have := HQ.out; omega
          case rel => exact ⟨i + 1, by go_num, ⟨by have := HQ.out; omega⟩, by have := HI2.out; have := HNN.out; omega, ⟨pw_below_drewN HB.out _⟩⟩
        | false =>
          have HR2 : Aside0 (readD d f.name = (f.data, 0)) := ⟨by rw [HRR.out]; rfl⟩
          rw [HR2.out] at HRC
          clear HRR
          go_wp2_with fail
          refine HRC.out.mono ?_
          rintro e w8 ⟨rfl, rfl⟩
          go_wp2_with fail
          go_quiet (first | (go_at_call 32; (refine (HKC.out _).mono ?_); rintro e w' ⟨rfl, ⟨nd, rfl⟩⟩; (try first | exact ⟨rfl, _, rfl⟩ | exact ⟨rfl, _, World.drewN_drewN _ _ _⟩)))
          go_wp2
          go_roundg k1
          case measure => have := HQ.out; omega
          case rel => exact ⟨i + 1, by go_num, ⟨by have := HQ.out; omega⟩, by have := HI2.out; have := HNN.out; omega, ⟨pw_below_drewN HB.out _⟩⟩
      · go_wp2
        go_ret
        exact ⟨rfl, HB2.out.trans (HB.out.mono HB2.out.size)⟩
end Go.Proofs.Ytihlacambdfmfaa.PK
/- disk: the law's own model: does, where the power is off or goes off. -/
namespace Go.Proofs.Ytihlacambdfmfaa.PK
open Go.RowKit Go.Proofs.YtihlacambdfmfaaW.PrintWords Go.Proofs.YtihlacambdfmfaaW.PrintLast Go.Proofs.YtihlacambdfmfaaW.PrintMore
open Go.Maps
open Go.Proofs.Ytihlacambdfmfaa.PR
theorem MTurn.front {w W0 w' : World} {base m : Nat} {A A1 : Option Addr} {c c1 : Nat} {d d1 : DS} (h : Md w base m A c d) (hb : Below w.heap.size w W0) (t : MTurn W0 base m A c d A1 c1 d1 w') : MTurn w base m A c d A1 c1 d1 w' := (MTurn.below h hb).trans t
/-- A cell that is none of the model's stands. -/
theorem MTurn.cell {w w' : World} {base m : Nat} {A A1 : Option Addr} {c c1 : Nat} {d d1 : DS} (t : MTurn w base m A c d A1 c1 d1 w') {b i : Nat} {v : Value} (hb : ¬ ft m A c d b) (hv : w.cell? ⟨b, i, none⟩ = some v) : w'.cell? ⟨b, i, none⟩ = some v := by
  have hlt : b < w.heap.size := World.block_lt_of_cell? w _ hv
  have hk := t.kp.block b hlt hb
  rw [← hv]
  unfold World.cell?
  dsimp only
  rw [hk]
theorem off_use {d : DS} (h : d.off = true) : useD d = (d, false) := by unfold useD; rw [if_pos h]
theorem gone_use {d : DS} (h : d.off = false) (ha : d.armed = true) (hl : d.left = 0) : useD d = ({ d with uses := d.uses + 1, off := true }, false) := by
  unfold useD
  rw [if_neg (by rw [h]; decide), if_pos ⟨ha, hl⟩]
set_option maxHeartbeats 1000000 in
set_option maxRecDepth 100000 in
theorem does_off (base m : Nat) (A : Option Addr) (c : Nat) (d : DS) (kind : Int) (name tn : ByteArray) (A3 : Option Addr) (n3 c3 : Nat) (n : Int) (A5 : Option Addr) (n5 c5 : Nat) (w : World) (h : Md w base m A c d) (hu0 : 0 ≤ d.uses) (hu1 : d.uses < 1000000) (hz : (useD d).2 = false) :
    Calls Try.prog 21 #[.pointer (some ⟨m, 0, none⟩), .agg #[.int .i64 kind, .string name, .string tn, .slice A3 n3 c3, .int .i64 n, .slice A5 n5 c5]] w fun e w' => e = .returned (.int .i64 7) ∧ MTurn w base m A c d A c (useD d).1 w' := by
  have HTA := Aside0.mk (MTurn.below h (below_alloc (Below.refl w.heap.size w) (actO kind name tn A3 n3 c3 n A5 n5 c5)))
  by_cases ho : d.off = true
  · have h2 : w.cell? ⟨m, 2, none⟩ = some (.bool d.off) := h.cell 2
    rw [ho] at h2
    rw [off_use ho]
    have hml : m < w.heap.size := blk_lt h.blk
    clear h ho hz
    go_enter Try.func21, Try.ntmps21
    go_wp2
    go_ret
    exact ⟨rfl, HTA.out⟩
  · have hof : d.off = false := by simpa using ho
    have hal : d.armed = true ∧ d.left = 0 := by
      unfold useD at hz
      rw [if_neg ho] at hz
      split at hz
      · assumption
      · split at hz <;> cases hz
    have h2 := HTA.out.md.cell 2
    have h3 := HTA.out.md.cell 3
    have h4 := HTA.out.md.cell 4
    have h5 := HTA.out.md.cell 5
    have f2 := HTA.out.md.frozen 2
    have f5 := HTA.out.md.frozen 5
    unfold mdCells at h2 h3 h4 h5
    simp only [List.getElem?_toArray, List.getElem?_cons_succ, List.getElem?_cons_zero] at h2 h3 h4 h5
    have t1 := MTurn.set (d1 := { d with uses := d.uses + 1 }) HTA.out.md 5 (.int .i64 (d.uses + 1)) rfl rfl
    have HT := Aside0.mk (HTA.out.trans (t1.trans (MTurn.set (d1 := { ({ d with uses := d.uses + 1 } : DS) with off := true }) t1.md 2 (.bool true) rfl rfl)))
    have hml : m < w.heap.size := blk_lt h.blk
    rw [gone_use hof hal.1 hal.2]
    rw [hof] at h2
    rw [hal.1] at h3
    rw [hal.2] at h4
    have hwu : IntKind.i64.wrap (d.uses + 1) = d.uses + 1 := by rw [IntKind.wrap_i64]; omega
    clear h ho hz hof hal t1 HTA
    go_enter Try.func21, Try.ntmps21
    go_upto_region 1 with fail
    have hml2 : m < (w.alloc (.cells #[.int .i64 kind, .string name, .string tn, .slice A3 n3 c3, .int .i64 n, .slice A5 n5 c5] 47)).heap.size := by rw [alloc_size]; omega
    generalize w.alloc (.cells #[.int .i64 kind, .string name, .string tn, .slice A3 n3 c3, .int .i64 n, .slice A5 n5 c5] 47) = W0 at h2 h3 h4 h5 f2 f5 HT hml2 ⊢
    go_wp2
    go_ret
    exact ⟨rfl, HT.out⟩
end Go.Proofs.Ytihlacambdfmfaa.PK
/- disk: the law's own model: does: what its parts want. -/
namespace Go.Proofs.Ytihlacambdfmfaa.PK
open Go.RowKit Go.Proofs.YtihlacambdfmfaaW.PrintWords Go.Proofs.YtihlacambdfmfaaW.PrintLast Go.Proofs.YtihlacambdfmfaaW.PrintMore
open Go.Maps
open Go.Proofs.Ytihlacambdfmfaa.PR
/-- A cell of a block that came later is set. -/
theorem MTurn.setNew {w w' : World} {base m : Nat} {A A1 : Option Addr} {c c1 : Nat} {d d1 : DS} (t : MTurn w base m A c d A1 c1 d1 w') {b i : Nat} {v : Value} (hb : w.heap.size ≤ b) (hn : ¬ ft m A1 c1 d1 b) : MTurn w base m A c d A1 c1 d1 (w'.setCell ⟨b, i, none⟩ v) := by
  have hfar : ∀ k, k ≠ b → (w'.setCell ⟨b, i, none⟩ v).heap[k]? = w'.heap[k]? := fun k hk => Below.heap_setCell w' ⟨b, i, none⟩ v k hk
  refine ⟨t.md.same fun k hk => hfar k (fun e => hn (by rw [← e]; exact hk)), ⟨t.kp.os, t.kp.tape, t.kp.output, ?_, fun k hk hf => ?_⟩, t.new⟩
  · show _ ≤ (Array.modify _ _ _).size
    rw [Array.size_modify]
    exact t.kp.size
  · rw [hfar k (by omega)]
    exact t.kp.block k hk hf
/-- A block that came ahead of a turn and is none of the model's is none of the model's behind it. -/
theorem MTurn.not_ft {w w' : World} {base m : Nat} {A A1 : Option Addr} {c c1 : Nat} {d d1 : DS} (t : MTurn w base m A c d A1 c1 d1 w') {b : Nat} (hb : b < w.heap.size) (hn : ¬ ft m A c d b) : ¬ ft m A1 c1 d1 b := fun h => by
  rcases t.new b h with h1 | h1
  · exact hn h1
  · omega
theorem use_on {d : DS} (hz : (useD d).2 = true) : d.off = false ∧ ¬ (d.armed = true ∧ d.left = 0) := by
  unfold useD at hz
  split at hz
  · cases hz
  · rename_i h
    split at hz
    · cases hz
    · rename_i h2
      exact ⟨by simpa using h, h2⟩
theorem use_armed {d : DS} (h : d.off = false) (hn : ¬ (d.armed = true ∧ d.left = 0)) (ha : d.armed = true) : useD d = ({ d with uses := d.uses + 1, left := d.left - 1 }, true) := by
  unfold useD
  rw [if_neg (by rw [h]; decide), if_neg hn, if_pos ha]
theorem use_plain {d : DS} (h : d.off = false) (ha : d.armed = false) : useD d = ({ d with uses := d.uses + 1 }, true) := by
  unfold useD
  rw [if_neg (by rw [h]; decide), if_neg (by rw [ha]; simp), if_neg (by rw [ha]; decide)]
theorem may_at (s : ByteArray) : affluxlaw06_may.f s = some (mayN s) := by
  unfold affluxlaw06_may.f mayN
  by_cases h : 0 < s.size
  · rw [if_pos (by omega), decide_eq_true h, Bool.true_and]
    congr 1
    exact decide_eq_decide.2 (by omega)
  · rw [if_neg (by omega), decide_eq_false h, Bool.false_and]
theorem begin_yes {d : DS} {names : List ByteArray} (hz : (useD d).2 = true) (h : ∀ j (hj : j < names.length), mayN names[j] = true) : beginD d names = ((useD d).1, 0) := by
  unfold beginD
  rw [if_pos hz, if_neg]
  intro hh
  obtain ⟨s, hs, h2⟩ := List.any_eq_true.1 hh
  obtain ⟨j, hj, rfl⟩ := List.getElem_of_mem hs
  rw [h j hj] at h2
  cases h2
theorem begin_no {d : DS} {names : List ByteArray} (hz : (useD d).2 = true) {j : Nat} (hj : j < names.length) (h : mayN names[j] = false) : beginD d names = ((useD d).1, 1) := by
  unfold beginD
  rw [if_pos hz, if_pos]
  exact List.any_eq_true.2 ⟨names[j], List.getElem_mem hj, by rw [h]; rfl⟩
def appD (d : DS) (name : ByteArray) (data : List ByteArray) (blk : Nat) : DS × Int :=
  if appendC d name data = 0 then ({ (beginD d [name]).1 with files := putF d.files ⟨name, blk, (oldF d.files name).1 ++ catS data, (oldF d.files name).2⟩ }, 0) else ((beginD d [name]).1, appendC d name data)
theorem does3_no {d d1 : DS} {name : ByteArray} (h : beginD d [name] = (d1, 1)) : deleteD d name = (d1, 1) := by
  have ht : thereD d [name] = (d1, 1) := by unfold thereD; rw [h]; rfl
  unfold deleteD
  rw [ht, if_neg (by show ¬ (1 : Int) = 0; decide)]
theorem does4_no {d d1 : DS} {name : ByteArray} {n : Int} (h : beginD d [name] = (d1, 1)) : cutD d name n = (d1, 1) := by
  have ht : thereD d [name] = (d1, 1) := by unfold thereD; rw [h]; rfl
  unfold cutD
  rw [ht, if_neg (by show ¬ (1 : Int) = 0; decide)]
theorem does1_no {d d1 : DS} {names : List ByteArray} (h : beginD d names = (d1, 1)) : syncD d names = (d1, 1) := by
  have ht : thereD d names = (d1, 1) := by unfold thereD; rw [h]; rfl
  unfold syncD
  rw [ht, if_neg (by show ¬ (1 : Int) = 0; decide)]
theorem there_some {d d1 : DS} {name : ByteArray} {f : Fl} (h : beginD d [name] = (d1, 0)) (hg : getF d.files name = some f) : thereD d [name] = (d1, 0) := by
  unfold thereD
  rw [h, if_pos rfl, if_pos]
  simp [isThere, hg]
theorem there_none {d d1 : DS} {name : ByteArray} (h : beginD d [name] = (d1, 0)) (hg : getF d.files name = none) : thereD d [name] = (d1, 8) := by
  unfold thereD
  rw [h, if_pos rfl, if_neg]
  simp [isThere, hg]
theorem does3_none {d d1 : DS} {name : ByteArray} (h : beginD d [name] = (d1, 0)) (hf : d1.files = d.files) (hg : getF d1.files name = none) : deleteD d name = (d1, 8) := by
  unfold deleteD
  rw [there_none h (by rw [← hf]; exact hg), if_neg (by show ¬ (8 : Int) = 0; decide)]
theorem does3_some {d d1 : DS} {name : ByteArray} {f : Fl} (h : beginD d [name] = (d1, 0)) (hf : d1.files = d.files) (hg : getF d1.files name = some f) : deleteD d name = ({ d1 with files := delF d1.files name }, 0) := by
  unfold deleteD
  rw [there_some h (by rw [← hf]; exact hg), if_pos rfl]
theorem does4_none {d d1 : DS} {name : ByteArray} {n : Int} (h : beginD d [name] = (d1, 0)) (hf : d1.files = d.files) (hg : getF d1.files name = none) : cutD d name n = (d1, 8) := by
  unfold cutD
  rw [there_none h (by rw [← hf]; exact hg), if_neg (by show ¬ (8 : Int) = 0; decide)]
theorem does4_some {d d1 : DS} {name : ByteArray} {n : Int} {f : Fl} (h : beginD d [name] = (d1, 0)) (hf : d1.files = d.files) (hg : getF d1.files name = some f) : cutD d name n = if n < 0 ∨ (f.data.size : Int) < n then (d1, 1) else ({ d1 with files := updF d1.files name (cutFl n.toNat) }, 0) := by
  unfold cutD
  rw [there_some h (by rw [← hf]; exact hg), if_pos rfl]
  dsimp only
  rw [hg]
theorem updF_set {fs : List Fl} (hn : (fs.map (·.name)).Nodup) (k : Nat) (hk : k < fs.length) (h : Fl → Fl) : updF fs fs[k].name h = fs.set k (h fs[k]) := by
  unfold updF
  apply List.ext_getElem
  · simp
  · intro i h1 h2
    rw [List.length_map] at h1
    rw [List.getElem_map, List.getElem_set]
    by_cases e : k = i
    · subst e
      rw [if_pos rfl, if_pos (sameN_self _)]
    · rw [if_neg e, if_neg]
      intro hs
      have h3 := sameN_iff.1 hs
      have h4 := (List.getElem_inj (xs := fs.map (·.name)) (h₀ := by rw [List.length_map]; exact h1) (h₁ := by rw [List.length_map]; exact hk) hn).1 (by rw [List.getElem_map, List.getElem_map]; exact h3)
      exact e h4.symm
theorem does2_no {d d1 : DS} {a c : ByteArray} (h : beginD d [a, c] = (d1, 1)) : renameD d a c = (d1, 1) := by
  unfold renameD
  rw [h, if_neg (by show ¬ (1 : Int) = 0; decide)]
theorem does2_none {d d1 : DS} {a c : ByteArray} (h : beginD d [a, c] = (d1, 0)) (hg : getF d1.files a = none) : renameD d a c = (d1, 8) := by
  unfold renameD
  rw [h, if_pos rfl]
  dsimp only
  rw [hg]
theorem does2_some {d d1 : DS} {a c : ByteArray} {f : Fl} (h : beginD d [a, c] = (d1, 0)) (hg : getF d1.files a = some f) : renameD d a c = ({ d1 with files := putF (delF d1.files a) { f with name := c } }, 0) := by
  unfold renameD
  rw [h, if_pos rfl]
  dsimp only
  rw [hg]
  rfl
theorem does0_no {d d1 : DS} {name : ByteArray} {data : List ByteArray} {blk : Nat} (h : beginD d [name] = (d1, 1)) : appD d name data blk = (d1, 1) := by
  have hc : appendC d name data = 1 := by unfold appendC; rw [h, if_neg (by show ¬ (1 : Int) = 0; decide)]
  unfold appD
  rw [hc, if_neg (by decide), h]
theorem does0_fits {d d1 : DS} {name : ByteArray} {data : List ByteArray} {blk : Nat} {r : Int} (h : beginD d [name] = (d1, 0)) (hr : fitsD d1 name ((oldF d.files name).1.size + sumS data : Nat) ((oldF d.files name).1.size : Nat) = r) : appD d name data blk = if r = 0 then ({ d1 with files := putF d.files ⟨name, blk, (oldF d.files name).1 ++ catS data, (oldF d.files name).2⟩ }, 0) else (d1, r) := by
  have hc : appendC d name data = r := by unfold appendC; rw [h, if_pos rfl]; exact hr
  unfold appD
  rw [hc, h]
theorem fits_none {d1 : DS} {name : ByteArray} {s : Int} (hg : getF d1.files name = none) : fitsD d1 name s 0 = if 1048576 < s ∨ ((-1 : Int) < 0 ∧ 100 ≤ d1.files.length) then 5 else if freeD d1 < s - 0 then 6 else 0 := by
  unfold fitsD
  by_cases h1 : 1048576 < s ∨ 100 ≤ d1.files.length
  · rw [if_pos (h1.imp id (fun h => ⟨hg, h⟩)), if_pos (h1.imp id (fun h => ⟨by omega, h⟩))]
  · have n1 : ¬ (1048576 < s ∨ (getF d1.files name = none ∧ 100 ≤ d1.files.length)) := fun h => h1 (h.imp id And.right)
    have n2 : ¬ (1048576 < s ∨ ((-1 : Int) < 0 ∧ 100 ≤ d1.files.length)) := fun h => h1 (h.imp id And.right)
    rw [if_neg n1, if_neg n2]
theorem does1_ok {d d1 : DS} {names : List ByteArray} (h : beginD d names = (d1, 0)) (ha : ∀ j (hj : j < names.length), isThere d.files names[j] = true) : syncD d names = ({ d1 with files := syncF d1.files names }, 0) := by
  have ht : thereD d names = (d1, 0) := by
    unfold thereD
    rw [h, if_pos rfl, if_pos]
    refine List.all_eq_true.2 fun s hs => ?_
    obtain ⟨j, hj, rfl⟩ := List.getElem_of_mem hs
    exact ha j hj
  unfold syncD
  rw [ht, if_pos rfl]
theorem does1_none {d d1 : DS} {names : List ByteArray} (h : beginD d names = (d1, 0)) {j : Nat} (hj : j < names.length) (ha : isThere d.files names[j] = false) : syncD d names = (d1, 8) := by
  have ht : thereD d names = (d1, 8) := by
    unfold thereD
    rw [h, if_pos rfl, if_neg]
    intro hh
    have := List.all_eq_true.1 hh names[j] (List.getElem_mem hj)
    rw [ha] at this
    cases this
  unfold syncD
  rw [ht, if_neg (by show ¬ (8 : Int) = 0; decide)]
end Go.Proofs.Ytihlacambdfmfaa.PK
/- disk: the law's own model: does, of kind 0. -/
namespace Go.Proofs.Ytihlacambdfmfaa.PK
open Go.RowKit Go.Proofs.YtihlacambdfmfaaW.PrintWords Go.Proofs.YtihlacambdfmfaaW.PrintLast Go.Proofs.YtihlacambdfmfaaW.PrintMore
open Go.Maps
open Go.Proofs.Ytihlacambdfmfaa.PR
set_option maxHeartbeats 20000000 in
set_option maxRecDepth 100000 in
theorem does0_calls (base m : Nat) (A : Option Addr) (c : Nat) (d : DS) (name tn : ByteArray) (A3 : Option Addr) (c3 : Nat) (data : List ByteArray) (n : Int) (A5 : Option Addr) (n5 c5 : Nat) (blk : Nat) (w : World) (h : Md w base m A c d) (hg : Good d) (has : Asc d.files) (hu : d.uses < 1000000) (hbs : base ≤ w.heap.size) (hC3 : Kd.C Kd.string w A3 data.length data) (hc3 : data.length ≤ c3) (hl3 : data.length ≤ 10) (hs3 : sumS data ≤ 1000000) (hA3 : ∀ ad, A3 = some ad → 0 < data.length → ¬ ft m A c d ad.block) (hz : (useD d).2 = true) :
    Calls Try.prog 21 #[.pointer (some ⟨m, 0, none⟩), .agg #[.int .i64 0, .string name, .string tn, .slice A3 data.length c3, .int .i64 n, .slice A5 n5 c5]] w fun e w' => ∃ A1 c1, e = .returned (.int .i64 (appD d name data blk).2) ∧ MTurn w base m A c d A1 c1 (appD d name data blk).1 w' := by
  have HTA := Aside0.mk (MTurn.below h (below_alloc (Below.refl w.heap.size w) (.cells #[.int .i64 0, .string name, .string tn, .slice A3 data.length c3, .int .i64 n, .slice A5 n5 c5] 47)))
  have HNB : Aside0 (¬ ft m A c d w.heap.size) := ⟨fun hk => absurd (h.lt _ hk) (Nat.lt_irrefl _)⟩
  obtain ⟨hof, hal⟩ := use_on hz
  have h2 := HTA.out.md.cell 2
  have h3 := HTA.out.md.cell 3
  have h4 := HTA.out.md.cell 4
  have h5 := HTA.out.md.cell 5
  have f4 := HTA.out.md.frozen 4
  have f5 := HTA.out.md.frozen 5
  unfold mdCells at h2 h3 h4 h5
  simp only [List.getElem?_toArray, List.getElem?_cons_succ, List.getElem?_cons_zero] at h2 h3 h4 h5
  rw [hof] at h2
  have HT1 := Aside0.mk (MTurn.set (d1 := { d with uses := d.uses + 1 }) HTA.out.md 5 (.int .i64 (d.uses + 1)) rfl rfl)
  have hwu : IntKind.i64.wrap (d.uses + 1) = d.uses + 1 := by rw [IntKind.wrap_i64]; have := hg.fair.uses0; omega
  have hml : m < (w.alloc (.cells #[.int .i64 0, .string name, .string tn, .slice A3 data.length c3, .int .i64 n, .slice A5 n5 c5] 47)).heap.size := by rw [alloc_size]; have := blk_lt h.blk; omega
  have HX : Aside0 (∀ i, (w.alloc (.cells #[.int .i64 0, .string name, .string tn, .slice A3 data.length c3, .int .i64 n, .slice A5 n5 c5] 47)).cell? ⟨w.heap.size, i, none⟩ = (#[.int .i64 0, .string name, .string tn, .slice A3 data.length c3, .int .i64 n, .slice A5 n5 c5] : Array Value)[i]?) := ⟨fun i => blk_cell (blk_new w _) i⟩
  have HC3 := Aside0.mk (fun w' (hk : Kp (ft m A c d) w w') => strC_kp hC3 hk hA3)
  have HBL : Aside0 (base ≤ (w.alloc (.cells #[.int .i64 0, .string name, .string tn, .slice A3 data.length c3, .int .i64 n, .slice A5 n5 c5] 47)).heap.size) := ⟨by rw [alloc_size]; omega⟩
  have HG := Aside0.mk hg
  have HAS := Aside0.mk has
  have HS3 := Aside0.mk hs3
  have HCC := Aside0.mk hc3
  have HU := Aside0.mk (And.intro hu hz)
  have HAL := Aside0.mk hal
  have HOF := Aside0.mk hof
  have HSP : Aside0 (∀ q : DS × Int, q = q → True) := ⟨fun _ _ => trivial⟩
  clear HSP
  clear h hg has hu hbs hC3 hc3 hs3 hA3 hz hof hal
  go_enter Try.func21, Try.ntmps21
  go_upto_region 1 with fail
  generalize w.alloc (.cells #[.int .i64 0, .string name, .string tn, .slice A3 data.length c3, .int .i64 n, .slice A5 n5 c5] 47) = W0 at HTA h2 h3 h4 h5 f4 f5 HT1 hml HX HBL ⊢
  go_upto_region 4 with fail
  have h31 := HT1.out.md.cell 3
  have h41 := HT1.out.md.cell 4
  have f41 := HT1.out.md.frozen 4
  unfold mdCells at h31 h41
  simp only [List.getElem?_toArray, List.getElem?_cons_succ, List.getElem?_cons_zero] at h31 h41
  have hml1 : m < (W0.setCell ⟨m, 5, none⟩ (.int .i64 (d.uses + 1))).heap.size := blk_lt HT1.out.md.blk
  clear h2 h3 h4 h5 f4 f5 hml
  generalize W0.setCell ⟨m, 5, none⟩ (.int .i64 (d.uses + 1)) = W1 at HT1 h31 h41 f41 hml1 ⊢
  go_cut [35] (fun s35 wx => s35 = .bool false ∧ wx = W1)
  case first =>
    cases harm : d.armed with
    | true =>
      rw [harm] at h31
      have hl0 : (d.left == 0) = false := beq_eq_false_iff_ne.2 (fun e => HAL.out ⟨harm, e⟩)
      clear harm
      go_wp2_with fail
      go_meet
      exact ⟨rfl, rfl⟩
    | false =>
      rw [harm] at h31
      clear harm
      go_wp2_with fail
      go_meet
      exact ⟨rfl, rfl⟩
  case rest =>
    obtain ⟨rfl, hwc⟩ := hcut
    subst hwc
    have hwl : IntKind.i64.wrap (d.left - 1) = d.left - 1 := by rw [IntKind.wrap_i64]; have := HG.out.fair.left0; have := HG.out.fair.left1; omega
    go_upto_if 42 with fail
    go_cut [] (fun wx => Aside0 (MTurn W0 base m A c d A c (useD d).1 wx))
    case first =>
      cases harm : d.armed with
      | true =>
        have HT2 := Aside0.mk (HT1.out.trans (MTurn.set (d1 := { ({ d with uses := d.uses + 1 } : DS) with left := d.left - 1 }) HT1.out.md 4 (.int .i64 (d.left - 1)) rfl rfl))
        have HUA := Aside0.mk (use_armed HOF.out HAL.out harm)
        clear harm
        go_wp2_with fail
        go_meet
        exact ⟨by rw [HUA.out]; exact HT2.out⟩
      | false =>
        have HUA := Aside0.mk (use_plain HOF.out harm)
        clear harm
        go_wp2_with fail
        go_meet
        exact ⟨by rw [HUA.out]; exact HT1.out⟩
    case rest =>
      have HT2 := hcut
      clear hcut h31 h41 f41 hml1 hwu hwl HT1
      have HD1 : Aside0 ((useD d).1.files = d.files ∧ Good (useD d).1) := ⟨useD_files d, HG.out.use HU.out.1⟩
      obtain ⟨d1, hd1⟩ : ∃ d1, d1 = (useD d).1 := ⟨_, rfl⟩
      have HDD := Aside0.mk hd1
      rw [← hd1] at HT2 HD1
      clear hd1
      have HXW : Aside0 (∀ (A' : Option Addr) (c' : Nat) (d' : DS) (w5 : World), MTurn W0 base m A c d A' c' d' w5 → w5.cell? ⟨w.heap.size, 0, none⟩ = some (.int .i64 0) ∧ w5.cell? ⟨w.heap.size, 1, none⟩ = some (.string name) ∧ w5.cell? ⟨w.heap.size, 2, none⟩ = some (.string tn) ∧ w5.cell? ⟨w.heap.size, 3, none⟩ = some (.slice A3 data.length c3) ∧ w5.cell? ⟨w.heap.size, 4, none⟩ = some (.int .i64 n)) := ⟨fun A' c' d' w5 t => ⟨t.cell HNB.out (HX.out 0), t.cell HNB.out (HX.out 1), t.cell HNB.out (HX.out 2), t.cell HNB.out (HX.out 3), t.cell HNB.out (HX.out 4)⟩⟩
      obtain ⟨hb0, hb1, hb2, hb3, hb4⟩ := HXW.out _ _ _ _ HT2.out
      have HNMS : Aside0 (Kd.C Kd.string (wc.alloc (.cells #[.string name] 9)) (some ⟨wc.heap.size, 0, none⟩) 1 [name]) := ⟨strC_blk (l := [name]) (blk_new wc _) (by simp)⟩
      have HT5 := Aside0.mk (HT2.out.trans (MTurn.below HT2.out.md (below_alloc (Below.refl wc.heap.size wc) (.cells #[.string name] 9))))
      clear HT2
      obtain ⟨hd0, hd1, hd2, hd3, hd4⟩ := HXW.out _ _ _ _ HT5.out
      go_wp2_with fail
      clear hb0 hb1 hb2 hb3 hb4 hd0 hd1 hd2 hd3 hd4
      generalize wc.alloc (.cells #[.string name] 9) = W5 at HT5 HNMS ⊢
      generalize wc.heap.size = nb at HNMS ⊢
      have HEV : Aside0 (∀ s ∈ [name], True) := ⟨fun _ _ => trivial⟩
      clear HEV
      go_loopg [6] (1 + 1) (fun kq v6 w' => ∃ i : Nat, v6 = .int .i64 i ∧ Aside0 (i + kq = 1 + 1) ∧ i ≤ 1 ∧ Aside0 (∀ j (hj : j < ([name] : List ByteArray).length), j < i → mayN ([name] : List ByteArray)[j] = true) ∧ Aside0 (Below W5.heap.size W5 w'))
      case atStart => exact ⟨0, rfl, ⟨by omega⟩, Nat.zero_le _, ⟨fun j _ h => by omega⟩, ⟨Below.refl _ _⟩⟩
      case round =>
        obtain ⟨i, rfl, HQ, hi, HM, HB⟩ := hrel
        have HT6 := Aside0.mk (HT5.out.trans (MTurn.below HT5.out.md HB.out))
        cases gk with
        | zero => exact absurd HQ.out (by omega)
        | succ k1 =>
          by_cases hin : i < 1
          · obtain ⟨ad, eA, hx⟩ := Kd.at_string (Kd.C_below HNMS.out HB.out) (i : Int) (by omega) (by omega)
            cases eA
            have hil : i < ([name] : List ByteArray).length := hin
            rw [rdS_at _ i hil] at hx
            simp only [Int.toNat_natCast] at hx
            have hadd : (⟨nb, 0, none⟩ : Addr).add i = ⟨nb, i, none⟩ := by rw [add_at, Nat.zero_add]
            rw [hadd] at hx
            clear hadd
            cases hmy : mayN ([name] : List ByteArray)[i] with
            | true =>
              have HM2 : Aside0 (∀ j (hj : j < ([name] : List ByteArray).length), j < i + 1 → mayN ([name] : List ByteArray)[j] = true) := ⟨fun j hj hj2 => by
                by_cases e : j = i
                · subst e; exact hmy
                · exact HM.out j hj (by omega)⟩
              have hmf := may_at ([name] : List ByteArray)[i]
              rw [hmy] at hmf
              have HMF := Aside0.mk hmf
              clear hmf hmy
              obtain ⟨s, hs⟩ : ∃ s, s = ([name] : List ByteArray)[i]'hil := ⟨_, rfl⟩
              rw [← hs] at hx HMF
              clear hs hil
              go_wp2_with fail
              refine (affluxlaw06_may.calls s true wr HMF.out).mono ?_
              rintro e w6 ⟨rfl, ⟨q6, hw6⟩⟩
              have HB6 : Aside0 (Below W5.heap.size W5 w6) := ⟨by rw [hw6]; exact pw_below_drewN HB.out q6⟩
              clear hw6
              go_wp2
              go_roundg k1
              case measure => have := HQ.out; omega
              case rel => exact ⟨i + 1, by go_num, ⟨by have := HQ.out; omega⟩, by omega, HM2, HB6⟩
            | false =>
              have HBN := Aside0.mk (begin_no HU.out.2 hil hmy)
              rw [← HDD.out] at HBN
              have hmf := may_at ([name] : List ByteArray)[i]
              rw [hmy] at hmf
              have HMF := Aside0.mk hmf
              clear hmf hmy
              obtain ⟨s, hs⟩ : ∃ s, s = ([name] : List ByteArray)[i]'hil := ⟨_, rfl⟩
              rw [← hs] at hx HMF
              clear hs hil
              go_wp2_with fail
              refine (affluxlaw06_may.calls s false wr HMF.out).mono ?_
              rintro e w6 ⟨rfl, ⟨q6, hw6⟩⟩
              have HB6 : Aside0 (Below W5.heap.size W5 w6) := ⟨by rw [hw6]; exact pw_below_drewN HB.out q6⟩
              clear hw6
              go_wp2
              go_ret
              refine ⟨A, c, ?_⟩
              rw [does0_no HBN.out]
              exact ⟨rfl, HTA.out.trans (HT5.out.trans (MTurn.below HT5.out.md HB6.out))⟩
          · have HBY := Aside0.mk (begin_yes (names := [name]) HU.out.2 (fun j hj => HM.out j hj (by have : j < 1 := hj; omega)))
            rw [← HDD.out] at HBY
            clear HM
            obtain ⟨hd0, hd1, hd2, hd3, hd4⟩ := HXW.out _ _ _ _ HT6.out
            go_wp2_with fail
            refine (find_calls base m A c d1 name wr HT6.out.md).mono ?_
            rintro e w7 ⟨fi, rfl, hfi, rfl⟩
            obtain ⟨KJ, hKJ⟩ := join_at data (by omega) (by have := HS3.out; omega)
            have HJ := Aside0.mk (hKJ KJ (Nat.le_refl _))
            clear hKJ
            have hof0 : d.files = d1.files := HD1.out.1.symm
            obtain ⟨r, hr⟩ : ∃ r, fitsD d1 name ((oldF d.files name).1.size + sumS data : Nat) ((oldF d.files name).1.size : Nat) = r := ⟨_, rfl⟩
            have HFT := Aside0.mk (does0_fits (blk := blk) HBY.out hr)
            rw [hof0] at hr HFT
            clear hof0
            rcases hfi with ⟨rfl, hgn⟩ | ⟨k, hk, rfl, hgs⟩
            · have ho : oldF d1.files name = (⟨#[]⟩, 0) := by unfold oldF; rw [hgn]
              rw [ho] at HFT hr
              dsimp only at HFT hr
              have HOD : Aside0 ((⟨#[]⟩ : ByteArray).size ≤ 1048576 ∧ True) := ⟨by decide, trivial⟩
              have HAP : Aside0 ((((⟨#[]⟩ : ByteArray) ++ catS data).size : Int) = ((0 + sumS data : Nat) : Int)) := ⟨by rw [append_size, catS_size]; rfl⟩
              have HRR : Aside0 (r = if 1048576 < ((((⟨#[]⟩ : ByteArray) ++ catS data).size : Nat) : Int) ∨ ((-1 : Int) < 0 ∧ 100 ≤ d1.files.length) then 5 else if freeD d1 < ((((⟨#[]⟩ : ByteArray) ++ catS data).size : Nat) : Int) - 0 then 6 else 0) := ⟨by rw [HAP.out, ← hr]; exact fits_none hgn⟩
              clear ho hr hgn
              have HT7 := Aside0.mk (HT6.out.trans (MTurn.below HT6.out.md (below_alloc (Below.refl wr.heap.size wr) (.cells #[.string name, .string (⟨#[]⟩ : ByteArray), .int .i64 0] 52))))
              have HNX : Aside0 (¬ ft m A c d1 wr.heap.size) := ⟨fun h9 => absurd (HT6.out.md.lt _ h9) (Nat.lt_irrefl _)⟩
              have HB7 : Aside0 ((wr.alloc (.cells #[.string name, .string (⟨#[]⟩ : ByteArray), .int .i64 0] 52)).heap[wr.heap.size]? = some (.cells #[.string name, .string (⟨#[]⟩ : ByteArray), .int .i64 0] 52 (0, 0)) ∧ wr.heap.size < (wr.alloc (.cells #[.string name, .string (⟨#[]⟩ : ByteArray), .int .i64 0] 52)).heap.size ∧ W0.heap.size ≤ wr.heap.size) := ⟨blk_new wr _, by rw [alloc_size]; omega, HT6.out.kp.size⟩
              have HCD := Aside0.mk (HC3.out _ (HTA.out.trans HT7.out).kp)
              go_upto_region 25 with fail
              clear hd0 hd1 hd2 hd3 hd4
              generalize wr.alloc (.cells #[.string name, .string (⟨#[]⟩ : ByteArray), .int .i64 0] 52) = W7 at HT7 HB7 HCD ⊢
              generalize wr.heap.size = b8 at HB7 HNX ⊢
              obtain ⟨hd0, hd1, hd2, hd3, hd4⟩ := HXW.out _ _ _ _ HT7.out
              have hlt7 := HB7.out.2.1
              have hcf20 : W7.drew.cell? ⟨b8, 1, none⟩ = some (.string (⟨#[]⟩ : ByteArray)) := blk_cell HB7.out.1 1
              have hff20 : W7.drew.frozen? ⟨b8, 1, none⟩ = false := blk_frozen HB7.out.1 1
              have hdd3 : W7.drew.cell? ⟨w.heap.size, 3, none⟩ = some (.slice A3 data.length c3) := hd3
              have hadd : ¬ 9223372036854775807 < (⟨#[]⟩ : ByteArray).size + (catS data).size := by rw [catS_size]; have := HS3.out; have := HOD.out.1; omega
              have hadd2 : ¬ 9223372036854775807 < (catS data).size := by rw [catS_size]; have := HS3.out; omega
              clear hd0 hd1 hd2 hd3 hd4
              go_wp2_with fail
              go_region_law (go_simp; go_at_call 25; refine (affluxlaw06_join.calls KJ A3 c3 data (catS data) _ (Kd.C_below HCD.out (below_drew (Below.refl _ _))) HCC.out HJ.out).mono ?_; rintro e w8 ⟨rfl, ⟨q8, hw8⟩⟩; have hb8 : Below W7.drew.heap.size W7.drew w8 := (by rw [hw8]; exact pw_below_drewN (Below.refl _ _) q8); have hcf3 := (hb8.cell (p := ⟨b8, 1, none⟩) hlt7).trans hcf20; have hff3 := (hb8.frozen (p := ⟨b8, 1, none⟩) hlt7).trans hff20; have hlt3 := Nat.lt_of_lt_of_le hlt7 hb8.size; have HB8 := Aside0.mk (below_step (below_drew (Below.refl W7.heap.size W7)) hb8); clear hb8 hw8)
              all_goals
                have HT8 := Aside0.mk ((HT7.out.trans (MTurn.below HT7.out.md HB8.out)).setNew (i := 1) (v := .string ((⟨#[]⟩ : ByteArray) ++ catS data)) HB7.out.2.2 HNX.out)
                have HB9 : Aside0 ((w8.setCell ⟨b8, 1, none⟩ (.string ((⟨#[]⟩ : ByteArray) ++ catS data))).heap[b8]? = some (.cells #[.string name, .string ((⟨#[]⟩ : ByteArray) ++ catS data), .int .i64 0] 52 (0, 0))) := ⟨blk_set ((HB8.out.block b8 hlt7).trans HB7.out.1) 1 _⟩
                generalize w8.setCell ⟨b8, 1, none⟩ (.string ((⟨#[]⟩ : ByteArray) ++ catS data)) = w9 at HT8 HB9 ⊢
                generalize ((⟨#[]⟩ : ByteArray) ++ catS data) = nt at HB9 HAP HRR HFT ⊢
                have hb1 : w9.cell? ⟨b8, 1, none⟩ = some (.string nt) := blk_cell HB9.out 1
                have HLY := Aside0.mk (lays_run base m A c d1 (-1) (nt.size : Int) 0 d1.files.length r w9 HT8.out.md HD1.out.2 (by omega) (by rw [HAP.out]; have := HS3.out; have := HOD.out.1; omega) ⟨by omega, by omega⟩ rfl (.inl ⟨rfl, rfl⟩) HRR.out)
                clear hcf20 hff20 hdd3 hcf3 hff3 hlt3 hadd hadd2
                go_wp2_with fail
                refine HLY.out.mono ?_
                rintro e w10 ⟨rfl, ⟨q10, hw10⟩⟩
                have HB10 : Aside0 (Below w9.heap.size w9 w10) := ⟨by rw [hw10]; exact pw_below_drewN (Below.refl _ _) q10⟩
                clear hw10
                have HT10 := Aside0.mk (HT8.out.trans (MTurn.below HT8.out.md HB10.out))
                have HB11 : Aside0 (w10.heap[b8]? = some (.cells #[.string name, .string nt, .int .i64 0] 52 (0, 0))) := ⟨(HB10.out.block b8 (blk_lt HB9.out)).trans HB9.out⟩
                by_cases hr0 : r = 0
                · have hr1 : (r == 0) = true := by rw [hr0]; rfl
                  have hr2 : (r != 0) = false := by rw [hr0]; rfl
                  have HSP : Aside0 (appD d name data blk = ({ d1 with files := putF d1.files ⟨name, blk, nt, 0⟩ }, 0)) := ⟨by rw [HFT.out, if_pos hr0]⟩
                  have hc0 := blk_cell HB11.out 0
                  have hc1 := blk_cell HB11.out 1
                  have hc2 := blk_cell HB11.out 2
                  simp only [List.getElem?_toArray, List.getElem?_cons_succ, List.getElem?_cons_zero] at hc0 hc1 hc2
                  have HPC := Aside0.mk (put_calls base m A c d1 ⟨name, blk, nt, 0⟩ w10 HT10.out.md (Nat.le_trans HBL.out HT10.out.kp.size) HD1.out.2.count)
                  clear hr0 hb1
                  go_wp2_with fail
                  refine HPC.out.mono ?_
                  rintro e w11 ⟨rfl, A2, c2, ht⟩
                  have HT11 := Aside0.mk (HT10.out.trans ht)
                  clear ht
                  go_wp2
                  go_ret
                  refine ⟨A2, c2, ?_⟩
                  rw [HSP.out]
                  exact ⟨rfl, HTA.out.trans HT11.out⟩
                · have hr1 : (r == 0) = false := beq_eq_false_iff_ne.2 hr0
                  have hr2 : (r != 0) = true := bne_iff_ne.2 hr0
                  have HSP : Aside0 (appD d name data blk = (d1, r)) := ⟨by rw [HFT.out, if_neg hr0]⟩
                  clear hr0 hb1
                  go_wp2
                  go_ret
                  refine ⟨A, c, ?_⟩
                  rw [HSP.out]
                  exact ⟨rfl, HTA.out.trans HT10.out⟩
            · have ho : oldF d1.files name = (d1.files[k].data, d1.files[k].kept) := by unfold oldF; rw [hgs]
              have HNE := Aside0.mk (getF_some hgs).2
              have hea := HD1.out.2.each d1.files[k] (List.getElem_mem hk)
              obtain ⟨g5, e5, hy0, hy1, hy2, hyf, hyl⟩ := HT6.out.md.file k hk
              subst e5
              rw [HNE.out] at hy0
              have hm1 : wr.cell? ⟨m, 1, none⟩ = some (.slice (some ⟨g5, 0, none⟩) d1.files.length c) := HT6.out.md.cell 1
              obtain ⟨f, hf⟩ : ∃ f, f = d1.files[k] := ⟨_, rfl⟩
              rw [← hf] at hy1 hy2 ho hea
              have hgn0 : getF d1.files name ≠ none := by rw [hgs]; simp
              have HF := Aside0.mk hf
              have HKL := Aside0.mk hk
              rw [ho] at HFT hr
              dsimp only at HFT hr
              have HOD : Aside0 (f.data.size ≤ 1048576 ∧ True) := ⟨hea.2.2.1, trivial⟩
              have HAP : Aside0 (((f.data ++ catS data).size : Int) = ((f.data.size + sumS data : Nat) : Int)) := ⟨by rw [append_size, catS_size]⟩
              have HRR : Aside0 (r = if 1048576 < ((f.data ++ catS data).size : Int) ∨ ((k : Int) < 0 ∧ 100 ≤ d1.files.length) then 5 else if freeD d1 < ((f.data ++ catS data).size : Int) - (f.data.size : Int) then 6 else 0) := ⟨by
                rw [HAP.out, ← hr]
                unfold fitsD
                have e1 : ¬ ((k : Int) < 0 ∧ 100 ≤ d1.files.length) := by omega
                have e2 : ¬ (getF d1.files name = none ∧ 100 ≤ d1.files.length) := fun h9 => hgn0 h9.1
                simp only [e1, e2, or_false]⟩
              have hki : (k : Int) < (d1.files.length : Int) := by omega
              clear ho hr hgs hf hea hgn0 hy0 hy1 hy2 hyf hyl hm1
              have HTB := Aside0.mk (HT6.out.trans (MTurn.below HT6.out.md (below_alloc (Below.refl wr.heap.size wr) (.cells #[.string name, .string ⟨#[]⟩, .int .i64 0] 52))))
              obtain ⟨g6, e6, hy0, hy1, hy2, hyf, hyl⟩ := HTB.out.md.file k HKL.out
              injection e6 with e6
              injection e6 with e6
              subst e6
              rw [HNE.out] at hy0
              rw [← HF.out] at hy1 hy2
              have hm1 : (wr.alloc (.cells #[.string name, .string ⟨#[]⟩, .int .i64 0] 52)).cell? ⟨m, 1, none⟩ = some (.slice (some ⟨g5, 0, none⟩) d1.files.length c) := HTB.out.md.cell 1
              have HT7 := Aside0.mk (HT6.out.trans (MTurn.below HT6.out.md (below_alloc (Below.refl wr.heap.size wr) (.cells #[.string name, .string f.data, .int .i64 f.kept] 52))))
              have HNX : Aside0 (¬ ft m (some ⟨g5, 0, none⟩) c d1 wr.heap.size) := ⟨fun h9 => absurd (HT6.out.md.lt _ h9) (Nat.lt_irrefl _)⟩
              have HB7 : Aside0 ((wr.alloc (.cells #[.string name, .string f.data, .int .i64 f.kept] 52)).heap[wr.heap.size]? = some (.cells #[.string name, .string f.data, .int .i64 f.kept] 52 (0, 0)) ∧ wr.heap.size < (wr.alloc (.cells #[.string name, .string f.data, .int .i64 f.kept] 52)).heap.size ∧ W0.heap.size ≤ wr.heap.size) := ⟨blk_new wr _, by rw [alloc_size]; omega, HT6.out.kp.size⟩
              have HCD := Aside0.mk (HC3.out _ (HTA.out.trans HT7.out).kp)
              go_upto_region 25 with fail
              clear hd0 hd1 hd2 hd3 hd4 hy0 hy1 hy2 hyf hyl hm1
              generalize wr.alloc (.cells #[.string name, .string f.data, .int .i64 f.kept] 52) = W7 at HT7 HB7 HCD ⊢
              generalize wr.heap.size = b8 at HB7 HNX ⊢
              obtain ⟨hd0, hd1, hd2, hd3, hd4⟩ := HXW.out _ _ _ _ HT7.out
              have hlt7 := HB7.out.2.1
              have hcf20 : W7.drew.cell? ⟨b8, 1, none⟩ = some (.string f.data) := blk_cell HB7.out.1 1
              have hff20 : W7.drew.frozen? ⟨b8, 1, none⟩ = false := blk_frozen HB7.out.1 1
              have hdd3 : W7.drew.cell? ⟨w.heap.size, 3, none⟩ = some (.slice A3 data.length c3) := hd3
              have hadd : ¬ 9223372036854775807 < f.data.size + (catS data).size := by rw [catS_size]; have := HS3.out; have := HOD.out.1; omega
              have hadd2 : ¬ 9223372036854775807 < (catS data).size := by rw [catS_size]; have := HS3.out; omega
              clear hd0 hd1 hd2 hd3 hd4
              go_wp2_with fail
              go_region_law (go_simp; go_at_call 25; refine (affluxlaw06_join.calls KJ A3 c3 data (catS data) _ (Kd.C_below HCD.out (below_drew (Below.refl _ _))) HCC.out HJ.out).mono ?_; rintro e w8 ⟨rfl, ⟨q8, hw8⟩⟩; have hb8 : Below W7.drew.heap.size W7.drew w8 := (by rw [hw8]; exact pw_below_drewN (Below.refl _ _) q8); have hcf3 := (hb8.cell (p := ⟨b8, 1, none⟩) hlt7).trans hcf20; have hff3 := (hb8.frozen (p := ⟨b8, 1, none⟩) hlt7).trans hff20; have hlt3 := Nat.lt_of_lt_of_le hlt7 hb8.size; have HB8 := Aside0.mk (below_step (below_drew (Below.refl W7.heap.size W7)) hb8); clear hb8 hw8)
              all_goals
                have HT8 := Aside0.mk ((HT7.out.trans (MTurn.below HT7.out.md HB8.out)).setNew (i := 1) (v := .string (f.data ++ catS data)) HB7.out.2.2 HNX.out)
                have HB9 : Aside0 ((w8.setCell ⟨b8, 1, none⟩ (.string (f.data ++ catS data))).heap[b8]? = some (.cells #[.string name, .string (f.data ++ catS data), .int .i64 f.kept] 52 (0, 0))) := ⟨blk_set ((HB8.out.block b8 hlt7).trans HB7.out.1) 1 _⟩
                generalize w8.setCell ⟨b8, 1, none⟩ (.string (f.data ++ catS data)) = w9 at HT8 HB9 ⊢
                generalize (f.data ++ catS data) = nt at HB9 HAP HRR HFT ⊢
                have hb1 : w9.cell? ⟨b8, 1, none⟩ = some (.string nt) := blk_cell HB9.out 1
                have HLY := Aside0.mk (lays_run base m (some ⟨g5, 0, none⟩) c d1 (k : Int) (nt.size : Int) (f.data.size : Int) d1.files.length r w9 HT8.out.md HD1.out.2 (by omega) (by rw [HAP.out]; have := HS3.out; have := HOD.out.1; omega) ⟨by omega, by have := HOD.out.1; omega⟩ rfl (.inr ⟨k, HKL.out, rfl, by rw [← HF.out]⟩) HRR.out)
                clear hcf20 hff20 hdd3 hcf3 hff3 hlt3 hadd hadd2
                go_wp2_with fail
                refine HLY.out.mono ?_
                rintro e w10 ⟨rfl, ⟨q10, hw10⟩⟩
                have HB10 : Aside0 (Below w9.heap.size w9 w10) := ⟨by rw [hw10]; exact pw_below_drewN (Below.refl _ _) q10⟩
                clear hw10
                have HT10 := Aside0.mk (HT8.out.trans (MTurn.below HT8.out.md HB10.out))
                have HB11 : Aside0 (w10.heap[b8]? = some (.cells #[.string name, .string nt, .int .i64 f.kept] 52 (0, 0))) := ⟨(HB10.out.block b8 (blk_lt HB9.out)).trans HB9.out⟩
                by_cases hr0 : r = 0
                · have hr1 : (r == 0) = true := by rw [hr0]; rfl
                  have hr2 : (r != 0) = false := by rw [hr0]; rfl
                  have HSP : Aside0 (appD d name data blk = ({ d1 with files := putF d1.files ⟨name, blk, nt, f.kept⟩ }, 0)) := ⟨by rw [HFT.out, if_pos hr0]⟩
                  have hc0 := blk_cell HB11.out 0
                  have hc1 := blk_cell HB11.out 1
                  have hc2 := blk_cell HB11.out 2
                  simp only [List.getElem?_toArray, List.getElem?_cons_succ, List.getElem?_cons_zero] at hc0 hc1 hc2
                  have HPC := Aside0.mk (put_calls base m (some ⟨g5, 0, none⟩) c d1 ⟨name, blk, nt, f.kept⟩ w10 HT10.out.md (Nat.le_trans HBL.out HT10.out.kp.size) HD1.out.2.count)
                  clear hr0 hb1
                  go_wp2_with fail
                  refine HPC.out.mono ?_
                  rintro e w11 ⟨rfl, A2, c2, ht⟩
                  have HT11 := Aside0.mk (HT10.out.trans ht)
                  clear ht
                  go_wp2
                  go_ret
                  refine ⟨A2, c2, ?_⟩
                  rw [HSP.out]
                  exact ⟨rfl, HTA.out.trans HT11.out⟩
                · have hr1 : (r == 0) = false := beq_eq_false_iff_ne.2 hr0
                  have hr2 : (r != 0) = true := bne_iff_ne.2 hr0
                  have HSP : Aside0 (appD d name data blk = (d1, r)) := ⟨by rw [HFT.out, if_neg hr0]⟩
                  clear hr0 hb1
                  go_wp2
                  go_ret
                  refine ⟨some ⟨g5, 0, none⟩, c, ?_⟩
                  rw [HSP.out]
                  exact ⟨rfl, HTA.out.trans HT10.out⟩
end Go.Proofs.Ytihlacambdfmfaa.PK
/- disk: the law's own model: does, of kind 1. -/
namespace Go.Proofs.Ytihlacambdfmfaa.PK
open Go.RowKit Go.Proofs.YtihlacambdfmfaaW.PrintWords Go.Proofs.YtihlacambdfmfaaW.PrintLast Go.Proofs.YtihlacambdfmfaaW.PrintMore
open Go.Maps
open Go.Proofs.Ytihlacambdfmfaa.PR
set_option maxHeartbeats 6000000 in
set_option maxRecDepth 100000 in
theorem does1_calls (base m : Nat) (A : Option Addr) (c : Nat) (d : DS) (name tn : ByteArray) (A3 : Option Addr) (c3 : Nat) (data : List ByteArray) (n : Int) (A5 : Option Addr) (n5 c5 : Nat) (w : World) (h : Md w base m A c d) (hg : Good d) (has : Asc d.files) (hu : d.uses < 1000000) (hbs : base ≤ w.heap.size) (hC3 : Kd.C Kd.string w A3 data.length data) (hc3 : data.length ≤ c3) (hl3 : data.length ≤ 10) (hs3 : sumS data ≤ 1000000) (hA3 : ∀ ad, A3 = some ad → 0 < data.length → ¬ ft m A c d ad.block) (hz : (useD d).2 = true) :
    Calls Try.prog 21 #[.pointer (some ⟨m, 0, none⟩), .agg #[.int .i64 1, .string name, .string tn, .slice A3 data.length c3, .int .i64 n, .slice A5 n5 c5]] w fun e w' => ∃ A1 c1, e = .returned (.int .i64 (syncD d (name :: data)).2) ∧ MTurn w base m A c d A1 c1 (syncD d (name :: data)).1 w' := by
  have HTA := Aside0.mk (MTurn.below h (below_alloc (Below.refl w.heap.size w) (.cells #[.int .i64 1, .string name, .string tn, .slice A3 data.length c3, .int .i64 n, .slice A5 n5 c5] 47)))
  have HNB : Aside0 (¬ ft m A c d w.heap.size) := ⟨fun hk => absurd (h.lt _ hk) (Nat.lt_irrefl _)⟩
  obtain ⟨hof, hal⟩ := use_on hz
  have h2 := HTA.out.md.cell 2
  have h3 := HTA.out.md.cell 3
  have h4 := HTA.out.md.cell 4
  have h5 := HTA.out.md.cell 5
  have f4 := HTA.out.md.frozen 4
  have f5 := HTA.out.md.frozen 5
  unfold mdCells at h2 h3 h4 h5
  simp only [List.getElem?_toArray, List.getElem?_cons_succ, List.getElem?_cons_zero] at h2 h3 h4 h5
  rw [hof] at h2
  have HT1 := Aside0.mk (MTurn.set (d1 := { d with uses := d.uses + 1 }) HTA.out.md 5 (.int .i64 (d.uses + 1)) rfl rfl)
  have hwu : IntKind.i64.wrap (d.uses + 1) = d.uses + 1 := by rw [IntKind.wrap_i64]; have := hg.fair.uses0; omega
  have hml : m < (w.alloc (.cells #[.int .i64 1, .string name, .string tn, .slice A3 data.length c3, .int .i64 n, .slice A5 n5 c5] 47)).heap.size := by rw [alloc_size]; have := blk_lt h.blk; omega
  have HX : Aside0 (∀ i, (w.alloc (.cells #[.int .i64 1, .string name, .string tn, .slice A3 data.length c3, .int .i64 n, .slice A5 n5 c5] 47)).cell? ⟨w.heap.size, i, none⟩ = (#[.int .i64 1, .string name, .string tn, .slice A3 data.length c3, .int .i64 n, .slice A5 n5 c5] : Array Value)[i]?) := ⟨fun i => blk_cell (blk_new w _) i⟩
  have HC3 := Aside0.mk (fun w' (hk : Kp (ft m A c d) w w') => strC_kp hC3 hk hA3)
  have HBL : Aside0 (base ≤ (w.alloc (.cells #[.int .i64 1, .string name, .string tn, .slice A3 data.length c3, .int .i64 n, .slice A5 n5 c5] 47)).heap.size) := ⟨by rw [alloc_size]; omega⟩
  have HG := Aside0.mk hg
  have HAS := Aside0.mk has
  have HS3 := Aside0.mk hs3
  have HCC := Aside0.mk hc3
  have HU := Aside0.mk (And.intro hu hz)
  have HAL := Aside0.mk hal
  have HOF := Aside0.mk hof
  have HSP : Aside0 (∀ q : DS × Int, q = q → True) := ⟨fun _ _ => trivial⟩
  clear HSP
  clear h hg has hu hbs hC3 hc3 hs3 hA3 hz hof hal
  go_enter Try.func21, Try.ntmps21
  go_upto_region 1 with fail
  generalize w.alloc (.cells #[.int .i64 1, .string name, .string tn, .slice A3 data.length c3, .int .i64 n, .slice A5 n5 c5] 47) = W0 at HTA h2 h3 h4 h5 f4 f5 HT1 hml HX HBL ⊢
  go_upto_region 4 with fail
  have h31 := HT1.out.md.cell 3
  have h41 := HT1.out.md.cell 4
  have f41 := HT1.out.md.frozen 4
  unfold mdCells at h31 h41
  simp only [List.getElem?_toArray, List.getElem?_cons_succ, List.getElem?_cons_zero] at h31 h41
  have hml1 : m < (W0.setCell ⟨m, 5, none⟩ (.int .i64 (d.uses + 1))).heap.size := blk_lt HT1.out.md.blk
  clear h2 h3 h4 h5 f4 f5 hml
  generalize W0.setCell ⟨m, 5, none⟩ (.int .i64 (d.uses + 1)) = W1 at HT1 h31 h41 f41 hml1 ⊢
  go_cut [35] (fun s35 wx => s35 = .bool false ∧ wx = W1)
  case first =>
    cases harm : d.armed with
    | true =>
      rw [harm] at h31
      have hl0 : (d.left == 0) = false := beq_eq_false_iff_ne.2 (fun e => HAL.out ⟨harm, e⟩)
      clear harm
      go_wp2_with fail
      go_meet
      exact ⟨rfl, rfl⟩
    | false =>
      rw [harm] at h31
      clear harm
      go_wp2_with fail
      go_meet
      exact ⟨rfl, rfl⟩
  case rest =>
    obtain ⟨rfl, hwc⟩ := hcut
    subst hwc
    have hwl : IntKind.i64.wrap (d.left - 1) = d.left - 1 := by rw [IntKind.wrap_i64]; have := HG.out.fair.left0; have := HG.out.fair.left1; omega
    go_upto_if 42 with fail
    go_cut [] (fun wx => Aside0 (MTurn W0 base m A c d A c (useD d).1 wx))
    case first =>
      cases harm : d.armed with
      | true =>
        have HT2 := Aside0.mk (HT1.out.trans (MTurn.set (d1 := { ({ d with uses := d.uses + 1 } : DS) with left := d.left - 1 }) HT1.out.md 4 (.int .i64 (d.left - 1)) rfl rfl))
        have HUA := Aside0.mk (use_armed HOF.out HAL.out harm)
        clear harm
        go_wp2_with fail
        go_meet
        exact ⟨by rw [HUA.out]; exact HT2.out⟩
      | false =>
        have HUA := Aside0.mk (use_plain HOF.out harm)
        clear harm
        go_wp2_with fail
        go_meet
        exact ⟨by rw [HUA.out]; exact HT1.out⟩
    case rest =>
      have HT2 := hcut
      clear hcut h31 h41 f41 hml1 hwu hwl HT1
      have HD1 : Aside0 ((useD d).1.files = d.files ∧ Good (useD d).1) := ⟨useD_files d, HG.out.use HU.out.1⟩
      obtain ⟨d1, hd1⟩ : ∃ d1, d1 = (useD d).1 := ⟨_, rfl⟩
      have HDD := Aside0.mk hd1
      rw [← hd1] at HT2 HD1
      clear hd1
      have HXW : Aside0 (∀ (A' : Option Addr) (c' : Nat) (d' : DS) (w5 : World), MTurn W0 base m A c d A' c' d' w5 → w5.cell? ⟨w.heap.size, 0, none⟩ = some (.int .i64 1) ∧ w5.cell? ⟨w.heap.size, 1, none⟩ = some (.string name) ∧ w5.cell? ⟨w.heap.size, 2, none⟩ = some (.string tn) ∧ w5.cell? ⟨w.heap.size, 3, none⟩ = some (.slice A3 data.length c3) ∧ w5.cell? ⟨w.heap.size, 4, none⟩ = some (.int .i64 n)) := ⟨fun A' c' d' w5 t => ⟨t.cell HNB.out (HX.out 0), t.cell HNB.out (HX.out 1), t.cell HNB.out (HX.out 2), t.cell HNB.out (HX.out 3), t.cell HNB.out (HX.out 4)⟩⟩
      obtain ⟨hb0, hb1, hb2, hb3, hb4⟩ := HXW.out _ _ _ _ HT2.out
      have HT3 := Aside0.mk (HT2.out.trans (MTurn.below HT2.out.md (below_alloc (Below.refl wc.heap.size wc) (.cells #[.string name] 9))))
      have HRW := Aside0.mk (rowS (w := wc.alloc (.cells #[.string name] 9)) (base := wc.heap.size) (blk_new wc (.cells #[.string name] 9)) (Nat.le_refl _))
      have HBW := Aside0.mk (below_alloc (Below.refl wc.heap.size wc) (.cells #[.string name] 9))
      have HCD := Aside0.mk (HC3.out _ (HTA.out.trans HT3.out).kp)
      obtain ⟨hd0, hd1, hd2, hd3, hd4⟩ := HXW.out _ _ _ _ HT3.out
      go_wp2_with (first | ((with_reducible refine gate_builtin (b := .append) (xs := #[.tmp 64, .tmp 66]) rfl ?_); at_builtin; refine Kd.R_append_rows Kd.string (w0 := wc) wc.heap.size rfl (.tmp 64) (.tmp 66) 22 9 (.string ⟨#[]⟩) 16 rfl Try.underlying22 infoS rfl (by decide) (by omega) (.slice (some ⟨wc.heap.size, 0, none⟩) 1 1) [name] data A3 data.length c3 (fun _ => True) (fun _ => False) rfl rfl HRW.out HCD.out (fun x cs h => strKM _ _ _ x cs h) (fun _ hk => hk.elim) (fun _ _ => trivial) HBW.out HBW.out.size (by simp; omega) ?_; intro v1 W5 ho hb hg_ hat_; clear hg_ hat_; obtain ⟨An, cn, en⟩ := Kd.R_slice ho; subst en; have HNMS : Aside0 (Kd.C Kd.string W5 An (data.length + 1) (name :: data)) := ⟨by have h9 := (Kd.R_reads' ho).2.2; rw [show ([name] ++ data : List ByteArray) = name :: data from rfl, List.length_cons] at h9; exact h9⟩; have HAB : Aside0 (∀ ad, An = some ad → ¬ ft m A c d1 ad.block) := ⟨fun ad e hf9 => by have h8 := Kd.R_base ho ad.block (by rw [e]; cases ad; simp [Value.ownBlock]); have h9 := HT2.out.md.lt _ hf9; omega⟩; have HT5 := Aside0.mk (HT2.out.trans (MTurn.below HT2.out.md hb)); rw [show ([name] ++ data : List ByteArray).length = data.length + 1 from by simp]; clear ho hb hb0 hb1 hb2 hb3 hb4 hd0 hd1 hd2 hd3 hd4 HT3 HRW HBW HCD; obtain ⟨hd0, hd1, hd2, hd3, hd4⟩ := HXW.out _ _ _ _ HT5.out))
      clear HT2 hd0 hd1 hd2 hd3 hd4
      have HEV : Aside0 (∀ s ∈ (name :: data), True) := ⟨fun _ _ => trivial⟩
      clear HEV
      go_loopg [6] ((data.length + 1) + 1) (fun kq v6 w' => ∃ i : Nat, v6 = .int .i64 i ∧ Aside0 (i + kq = (data.length + 1) + 1) ∧ i ≤ (data.length + 1) ∧ Aside0 (∀ j (hj : j < ((name :: data) : List ByteArray).length), j < i → mayN ((name :: data) : List ByteArray)[j] = true) ∧ Aside0 (Below W5.heap.size W5 w'))
      case atStart => exact ⟨0, rfl, ⟨by omega⟩, Nat.zero_le _, ⟨fun j _ h => by omega⟩, ⟨Below.refl _ _⟩⟩
      case round =>
        obtain ⟨i, rfl, HQ, hi, HM, HB⟩ := hrel
        have HT6 := Aside0.mk (HT5.out.trans (MTurn.below HT5.out.md HB.out))
        cases gk with
        | zero => exact absurd HQ.out (by omega)
        | succ k1 =>
          by_cases hin : i < (data.length + 1)
          · obtain ⟨ad, eA, hx⟩ := Kd.at_string (Kd.C_below HNMS.out HB.out) (i : Int) (by omega) (by omega)
            cases eA
            have hil : i < ((name :: data) : List ByteArray).length := by rw [List.length_cons]; exact hin
            rw [rdS_at _ i hil] at hx
            simp only [Int.toNat_natCast] at hx
            cases hmy : mayN ((name :: data) : List ByteArray)[i] with
            | true =>
              have HM2 : Aside0 (∀ j (hj : j < ((name :: data) : List ByteArray).length), j < i + 1 → mayN ((name :: data) : List ByteArray)[j] = true) := ⟨fun j hj hj2 => by
                by_cases e : j = i
                · subst e; exact hmy
                · exact HM.out j hj (by omega)⟩
              have hmf := may_at ((name :: data) : List ByteArray)[i]
              rw [hmy] at hmf
              have HMF := Aside0.mk hmf
              clear hmf hmy
              obtain ⟨s, hs⟩ : ∃ s, s = ((name :: data) : List ByteArray)[i]'hil := ⟨_, rfl⟩
              rw [← hs] at hx HMF
              clear hs hil
              go_wp2_with fail
              refine (affluxlaw06_may.calls s true wr HMF.out).mono ?_
              rintro e w6 ⟨rfl, ⟨q6, hw6⟩⟩
              have HB6 : Aside0 (Below W5.heap.size W5 w6) := ⟨by rw [hw6]; exact pw_below_drewN HB.out q6⟩
              clear hw6
              go_wp2
              go_roundg k1
              case measure => have := HQ.out; omega
              case rel => exact ⟨i + 1, by go_num, ⟨by have := HQ.out; omega⟩, by omega, HM2, HB6⟩
            | false =>
              have HBN := Aside0.mk (begin_no HU.out.2 hil hmy)
              rw [← HDD.out] at HBN
              have hmf := may_at ((name :: data) : List ByteArray)[i]
              rw [hmy] at hmf
              have HMF := Aside0.mk hmf
              clear hmf hmy
              obtain ⟨s, hs⟩ : ∃ s, s = ((name :: data) : List ByteArray)[i]'hil := ⟨_, rfl⟩
              rw [← hs] at hx HMF
              clear hs hil
              go_wp2_with fail
              refine (affluxlaw06_may.calls s false wr HMF.out).mono ?_
              rintro e w6 ⟨rfl, ⟨q6, hw6⟩⟩
              have HB6 : Aside0 (Below W5.heap.size W5 w6) := ⟨by rw [hw6]; exact pw_below_drewN HB.out q6⟩
              clear hw6
              go_wp2
              go_ret
              refine ⟨A, c, ?_⟩
              rw [does1_no HBN.out]
              exact ⟨rfl, HTA.out.trans (HT5.out.trans (MTurn.below HT5.out.md HB6.out))⟩
          · have HBY := Aside0.mk (begin_yes (names := (name :: data)) HU.out.2 (fun j hj => HM.out j hj (by have : j < (data.length + 1) := hj; omega)))
            rw [← HDD.out] at HBY
            clear HM
            obtain ⟨hd0, hd1, hd2, hd3, hd4⟩ := HXW.out _ _ _ _ HT6.out
            go_wp2_with fail
            refine (find_calls base m A c d1 name wr HT6.out.md).mono ?_
            rintro e w7 ⟨fi, rfl, hfi, rfl⟩
            obtain ⟨nm, hnm⟩ : ∃ nm : List ByteArray, nm = name :: data := ⟨_, rfl⟩
            have HNL : Aside0 (nm.length = data.length + 1) := ⟨by rw [hnm]; rfl⟩
            have HN6 : Aside0 (Kd.C Kd.string wr An nm.length nm) := ⟨by rw [hnm]; exact Kd.C_below HNMS.out HB.out⟩
            rw [← hnm] at HBY
            have HNMD := Aside0.mk hnm
            clear hnm hfi hin hd0 hd1 hd2 hd3 hd4
            have HZ0 : Aside0 (Below wr.heap.size wr wr) := ⟨Below.refl _ _⟩
            obtain ⟨nl, hnl⟩ : ∃ nl, nl = data.length + 1 := ⟨_, rfl⟩
            have hnb : nl ≤ 11 := by omega
            have HNQ : Aside0 (nm.length = nl) := ⟨by rw [HNL.out, hnl]⟩
            rw [HNQ.out] at HN6
            obtain ⟨hd0, hd1, hd2, hd3, hd4⟩ := HXW.out _ _ _ _ HT6.out
            rw [← hnl]
            clear hnl
            obtain ⟨W6, hW6⟩ : ∃ W6, W6 = wr := ⟨_, rfl⟩
            subst hW6
            go_wp2_with fail
            clear hd0 hd1 hd2 hd3 hd4
            go_loopg [10] (nl + 1) (fun kq v10 w' => ∃ i : Nat, v10 = .int .i64 i ∧ Aside0 (i + kq = nl + 1) ∧ i ≤ nl ∧ Aside0 (∀ j (hj : j < nm.length), j < i → isThere d1.files nm[j] = true) ∧ w' = W6)
            case atStart => exact ⟨0, rfl, ⟨by omega⟩, Nat.zero_le _, ⟨fun j _ h => by omega⟩, rfl⟩
            case round =>
              clear HZ0
              obtain ⟨i2, rfl, HQ2, hi2, HM2, rfl⟩ := hrel
              cases gk with
              | zero => exact absurd HQ2.out (by omega)
              | succ k2 =>
                by_cases hin2 : i2 < nl
                · obtain ⟨ad, eA, hx⟩ := Kd.at_string HN6.out (i2 : Int) (by omega) (by omega)
                  cases eA
                  have hil2 : i2 < nm.length := by rw [HNQ.out]; exact hin2
                  rw [rdS_at _ i2 hil2] at hx
                  simp only [Int.toNat_natCast] at hx
                  have HFC := Aside0.mk (find_calls base m A c d1 nm[i2] wr HT6.out.md)
                  have HTY := Aside0.mk (fun (h9 : isThere d1.files nm[i2] = true) (j : Nat) (hj : j < nm.length) (hj2 : j < i2 + 1) => (show isThere d1.files nm[j] = true from by
                    by_cases e : j = i2
                    · subst e; exact h9
                    · exact HM2.out j hj (by omega)))
                  have HTN := Aside0.mk (fun (h9 : isThere d1.files nm[i2] = false) => does1_none HBY.out hil2 (by rw [← HD1.out.1]; exact h9))
                  obtain ⟨s, hs⟩ : ∃ s, s = nm[i2] := ⟨_, rfl⟩
                  rw [← hs] at hx HFC HTY HTN
                  clear hs hil2
                  go_wp2_with fail
                  refine HFC.out.mono ?_
                  rintro e w7 ⟨f2, rfl, hf2, rfl⟩
                  rcases hf2 with ⟨rfl, hgn⟩ | ⟨k7, hk7, rfl, hgs⟩
                  · have HSP := Aside0.mk (HTN.out (by unfold isThere; rw [hgn]; rfl))
                    clear hgn
                    go_wp2
                    go_ret
                    refine ⟨A, c, ?_⟩
                    rw [← HNMD.out, HSP.out]
                    exact ⟨rfl, HTA.out.trans HT6.out⟩
                  · have HM3 := Aside0.mk (HTY.out (by unfold isThere; rw [hgs]; rfl))
                    have hk0 : ¬ (k7 : Int) < 0 := by omega
                    clear hgs
                    go_wp2
                    go_roundg k2
                    case measure => have := HQ2.out; omega
                    case rel => exact ⟨i2 + 1, by go_num, ⟨by have := HQ2.out; omega⟩, by omega, HM3, rfl⟩
                · have HAL2 : Aside0 (∀ j (hj : j < nm.length), isThere d1.files nm[j] = true) := ⟨fun j hj => HM2.out j hj (by have := HNQ.out; omega)⟩
                  have HSP := Aside0.mk (does1_ok HBY.out (by rw [← HD1.out.1]; exact HAL2.out))
                  have HS0 : Aside0 (d1 = { d1 with files := syncF d1.files (nm.take 0) }) := ⟨by rw [List.take_zero]; rfl⟩
                  obtain ⟨W7, hW7⟩ : ∃ W7, W7 = wr := ⟨_, rfl⟩
                  subst hW7
                  go_wp2_with fail
                  clear hi2 hin2
                  have HT7 := Aside0.mk (MTurn.below HT6.out.md (Below.refl W7.heap.size W7))
                  go_loopg [11, 12] (nl + 1) (fun kq v11 _ w' => ∃ i : Nat, v11 = .int .i64 i ∧ Aside0 (i + kq = nl + 1) ∧ i ≤ nl ∧ Aside0 (MTurn W7 base m A c d1 A c { d1 with files := syncF d1.files (nm.take i) } w'))
                  case atStart => exact ⟨0, rfl, ⟨by omega⟩, Nat.zero_le _, ⟨by rw [← HS0.out]; exact HT7.out⟩⟩
                  case round =>
                    obtain ⟨i3, rfl, HQ3, hi3, HT9⟩ := hrel
                    cases gk with
                    | zero => exact absurd HQ3.out (by omega)
                    | succ k3 =>
                      by_cases hin3 : i3 < nl
                      · have hCN : Kd.C Kd.string wr An nl nm := by have h8 := HN6.out; rw [← HNQ.out] at h8 ⊢; exact strC_kp h8 HT9.out.kp (fun ad e _ => HAB.out ad e)
                        obtain ⟨ad, eA, hx⟩ := Kd.at_string hCN (i3 : Int) (by omega) (by omega)
                        cases eA
                        have hil3 : i3 < nm.length := by rw [HNQ.out]; exact hin3
                        rw [rdS_at _ i3 hil3] at hx
                        simp only [Int.toNat_natCast] at hx
                        have hth := HAL2.out i3 hil3
                        have HSN : Aside0 (syncF d1.files (nm.take (i3 + 1)) = updF (syncF d1.files (nm.take i3)) nm[i3] keepAll) := ⟨by rw [take_snocS nm i3 hil3, syncF_snoc]⟩
                        have hth2 : isThere (syncF d1.files (nm.take i3)) nm[i3] = true := by rw [← isThere_names (syncF_names (nm.take i3) d1.files).symm]; exact hth
                        have HND : Aside0 (((syncF d1.files (nm.take i3)).map (·.name)).Nodup) := ⟨by rw [syncF_names]; exact HD1.out.2.names⟩
                        obtain ⟨s, hs⟩ : ∃ s, s = nm[i3] := ⟨_, rfl⟩
                        rw [← hs] at hx HSN hth2
                        clear hs hil3 hth hCN
                        have HTH := Aside0.mk hth2
                        clear hth2
                        obtain ⟨d3, hd3⟩ : ∃ d3 : DS, d3 = { d1 with files := syncF d1.files (nm.take i3) } := ⟨_, rfl⟩
                        have HD3 : Aside0 (d3.files = syncF d1.files (nm.take i3) ∧ ∀ fs : List Fl, ({ d3 with files := fs } : DS) = { d1 with files := fs }) := ⟨by rw [hd3]; exact ⟨rfl, fun _ => rfl⟩⟩
                        rw [← hd3] at HT9
                        rw [← HD3.out.1] at HSN HND HTH
                        clear hd3
                        have HFC := Aside0.mk (find_calls base m A c d3 s wr HT9.out.md)
                        go_wp2_with fail
                        refine HFC.out.mono ?_
                        rintro e w7 ⟨f3, rfl, hf3, rfl⟩
                        rcases hf3 with ⟨rfl, hgn⟩ | ⟨k7, hk7, rfl, hgs⟩
                        · exact absurd HTH.out (by unfold isThere; rw [hgn]; decide)
                        · obtain ⟨g5, e5, hy0, hy1, hy2, hyf, hyl⟩ := HT9.out.md.file k7 hk7
                          subst e5
                          have HNE := Aside0.mk (getF_some hgs).2
                          have HT10 := Aside0.mk (HT9.out.trans (MTurn.elemK HT9.out.md k7 hk7 (d3.files[k7].data.size : Int)))
                          have HT11 := Aside0.mk (HT10.out.trans (MTurn.below HT10.out.md (below_drew (Below.refl _ _))))
                          have HEQ : Aside0 ({ d3 with files := d3.files.set k7 { d3.files[k7] with kept := (d3.files[k7].data.size : Int) } } = ({ d1 with files := syncF d1.files (nm.take (i3 + 1)) } : DS)) := ⟨by rw [HSN.out, ← HNE.out, updF_set HND.out k7 hk7, HD3.out.2]; rfl⟩
                          have hm1 : wr.cell? ⟨m, 1, none⟩ = some (.slice (some ⟨g5, 0, none⟩) d3.files.length c) := HT9.out.md.cell 1
                          have hki : (k7 : Int) < (d3.files.length : Int) := by omega
                          have hf2 := hyf (k7 * 3 + 2)
                          clear hgs hyf hx
                          go_wp2_with fail
                          go_region
                          go_wp2
                          go_roundg k3
                          case measure => have := HQ3.out; omega
                          case rel => exact ⟨i3 + 1, by go_num, ⟨by have := HQ3.out; omega⟩, by omega, ⟨by rw [← HEQ.out]; exact HT11.out⟩⟩
                      · have hie : i3 = nm.length := by have := HNQ.out; omega
                        rw [hie, List.take_length] at HT9
                        clear hie
                        go_wp2
                        go_ret
                        refine ⟨A, c, ?_⟩
                        rw [← HNMD.out, HSP.out]
                        exact ⟨rfl, HTA.out.trans (HT6.out.trans HT9.out)⟩
end Go.Proofs.Ytihlacambdfmfaa.PK
/- disk: the law's own model: does, of kind 2. -/
namespace Go.Proofs.Ytihlacambdfmfaa.PK
open Go.RowKit Go.Proofs.YtihlacambdfmfaaW.PrintWords Go.Proofs.YtihlacambdfmfaaW.PrintLast Go.Proofs.YtihlacambdfmfaaW.PrintMore
open Go.Maps
open Go.Proofs.Ytihlacambdfmfaa.PR
set_option maxHeartbeats 4000000 in
set_option maxRecDepth 100000 in
theorem does2_calls (base m : Nat) (A : Option Addr) (c : Nat) (d : DS) (name tn : ByteArray) (A3 : Option Addr) (c3 : Nat) (data : List ByteArray) (n : Int) (A5 : Option Addr) (n5 c5 : Nat) (w : World) (h : Md w base m A c d) (hg : Good d) (has : Asc d.files) (hu : d.uses < 1000000) (hbs : base ≤ w.heap.size) (hC3 : Kd.C Kd.string w A3 data.length data) (hc3 : data.length ≤ c3) (hl3 : data.length ≤ 10) (hs3 : sumS data ≤ 1000000) (hA3 : ∀ ad, A3 = some ad → 0 < data.length → ¬ ft m A c d ad.block) (hz : (useD d).2 = true) :
    Calls Try.prog 21 #[.pointer (some ⟨m, 0, none⟩), .agg #[.int .i64 2, .string name, .string tn, .slice A3 data.length c3, .int .i64 n, .slice A5 n5 c5]] w fun e w' => ∃ A1 c1, e = .returned (.int .i64 (renameD d name tn).2) ∧ MTurn w base m A c d A1 c1 (renameD d name tn).1 w' := by
  have HTA := Aside0.mk (MTurn.below h (below_alloc (Below.refl w.heap.size w) (.cells #[.int .i64 2, .string name, .string tn, .slice A3 data.length c3, .int .i64 n, .slice A5 n5 c5] 47)))
  have HNB : Aside0 (¬ ft m A c d w.heap.size) := ⟨fun hk => absurd (h.lt _ hk) (Nat.lt_irrefl _)⟩
  obtain ⟨hof, hal⟩ := use_on hz
  have h2 := HTA.out.md.cell 2
  have h3 := HTA.out.md.cell 3
  have h4 := HTA.out.md.cell 4
  have h5 := HTA.out.md.cell 5
  have f4 := HTA.out.md.frozen 4
  have f5 := HTA.out.md.frozen 5
  unfold mdCells at h2 h3 h4 h5
  simp only [List.getElem?_toArray, List.getElem?_cons_succ, List.getElem?_cons_zero] at h2 h3 h4 h5
  rw [hof] at h2
  have HT1 := Aside0.mk (MTurn.set (d1 := { d with uses := d.uses + 1 }) HTA.out.md 5 (.int .i64 (d.uses + 1)) rfl rfl)
  have hwu : IntKind.i64.wrap (d.uses + 1) = d.uses + 1 := by rw [IntKind.wrap_i64]; have := hg.fair.uses0; omega
  have hml : m < (w.alloc (.cells #[.int .i64 2, .string name, .string tn, .slice A3 data.length c3, .int .i64 n, .slice A5 n5 c5] 47)).heap.size := by rw [alloc_size]; have := blk_lt h.blk; omega
  have HX : Aside0 (∀ i, (w.alloc (.cells #[.int .i64 2, .string name, .string tn, .slice A3 data.length c3, .int .i64 n, .slice A5 n5 c5] 47)).cell? ⟨w.heap.size, i, none⟩ = (#[.int .i64 2, .string name, .string tn, .slice A3 data.length c3, .int .i64 n, .slice A5 n5 c5] : Array Value)[i]?) := ⟨fun i => blk_cell (blk_new w _) i⟩
  have HC3 := Aside0.mk (fun w' (hk : Kp (ft m A c d) w w') => strC_kp hC3 hk hA3)
  have HBL : Aside0 (base ≤ (w.alloc (.cells #[.int .i64 2, .string name, .string tn, .slice A3 data.length c3, .int .i64 n, .slice A5 n5 c5] 47)).heap.size) := ⟨by rw [alloc_size]; omega⟩
  have HG := Aside0.mk hg
  have HAS := Aside0.mk has
  have HS3 := Aside0.mk hs3
  have HCC := Aside0.mk hc3
  have HU := Aside0.mk (And.intro hu hz)
  have HAL := Aside0.mk hal
  have HOF := Aside0.mk hof
  have HSP : Aside0 (∀ q : DS × Int, q = q → True) := ⟨fun _ _ => trivial⟩
  clear HSP
  clear h hg has hu hbs hC3 hc3 hs3 hA3 hz hof hal
  go_enter Try.func21, Try.ntmps21
  go_upto_region 1 with fail
  generalize w.alloc (.cells #[.int .i64 2, .string name, .string tn, .slice A3 data.length c3, .int .i64 n, .slice A5 n5 c5] 47) = W0 at HTA h2 h3 h4 h5 f4 f5 HT1 hml HX HBL ⊢
  go_upto_region 4 with fail
  have h31 := HT1.out.md.cell 3
  have h41 := HT1.out.md.cell 4
  have f41 := HT1.out.md.frozen 4
  unfold mdCells at h31 h41
  simp only [List.getElem?_toArray, List.getElem?_cons_succ, List.getElem?_cons_zero] at h31 h41
  have hml1 : m < (W0.setCell ⟨m, 5, none⟩ (.int .i64 (d.uses + 1))).heap.size := blk_lt HT1.out.md.blk
  clear h2 h3 h4 h5 f4 f5 hml
  generalize W0.setCell ⟨m, 5, none⟩ (.int .i64 (d.uses + 1)) = W1 at HT1 h31 h41 f41 hml1 ⊢
  go_cut [35] (fun s35 wx => s35 = .bool false ∧ wx = W1)
  case first =>
    cases harm : d.armed with
    | true =>
      rw [harm] at h31
      have hl0 : (d.left == 0) = false := beq_eq_false_iff_ne.2 (fun e => HAL.out ⟨harm, e⟩)
      clear harm
      go_wp2_with fail
      go_meet
      exact ⟨rfl, rfl⟩
    | false =>
      rw [harm] at h31
      clear harm
      go_wp2_with fail
      go_meet
      exact ⟨rfl, rfl⟩
  case rest =>
    obtain ⟨rfl, hwc⟩ := hcut
    subst hwc
    have hwl : IntKind.i64.wrap (d.left - 1) = d.left - 1 := by rw [IntKind.wrap_i64]; have := HG.out.fair.left0; have := HG.out.fair.left1; omega
    go_upto_if 42 with fail
    go_cut [] (fun wx => Aside0 (MTurn W0 base m A c d A c (useD d).1 wx))
    case first =>
      cases harm : d.armed with
      | true =>
        have HT2 := Aside0.mk (HT1.out.trans (MTurn.set (d1 := { ({ d with uses := d.uses + 1 } : DS) with left := d.left - 1 }) HT1.out.md 4 (.int .i64 (d.left - 1)) rfl rfl))
        have HUA := Aside0.mk (use_armed HOF.out HAL.out harm)
        clear harm
        go_wp2_with fail
        go_meet
        exact ⟨by rw [HUA.out]; exact HT2.out⟩
      | false =>
        have HUA := Aside0.mk (use_plain HOF.out harm)
        clear harm
        go_wp2_with fail
        go_meet
        exact ⟨by rw [HUA.out]; exact HT1.out⟩
    case rest =>
      have HT2 := hcut
      clear hcut h31 h41 f41 hml1 hwu hwl HT1
      have HD1 : Aside0 ((useD d).1.files = d.files ∧ Good (useD d).1) := ⟨useD_files d, HG.out.use HU.out.1⟩
      obtain ⟨d1, hd1⟩ : ∃ d1, d1 = (useD d).1 := ⟨_, rfl⟩
      have HDD := Aside0.mk hd1
      rw [← hd1] at HT2 HD1
      clear hd1
      have HXW : Aside0 (∀ (A' : Option Addr) (c' : Nat) (d' : DS) (w5 : World), MTurn W0 base m A c d A' c' d' w5 → w5.cell? ⟨w.heap.size, 0, none⟩ = some (.int .i64 2) ∧ w5.cell? ⟨w.heap.size, 1, none⟩ = some (.string name) ∧ w5.cell? ⟨w.heap.size, 2, none⟩ = some (.string tn) ∧ w5.cell? ⟨w.heap.size, 3, none⟩ = some (.slice A3 data.length c3) ∧ w5.cell? ⟨w.heap.size, 4, none⟩ = some (.int .i64 n)) := ⟨fun A' c' d' w5 t => ⟨t.cell HNB.out (HX.out 0), t.cell HNB.out (HX.out 1), t.cell HNB.out (HX.out 2), t.cell HNB.out (HX.out 3), t.cell HNB.out (HX.out 4)⟩⟩
      obtain ⟨hb0, hb1, hb2, hb3, hb4⟩ := HXW.out _ _ _ _ HT2.out
      have HT3 := Aside0.mk (HT2.out.trans (MTurn.below HT2.out.md (below_alloc (Below.refl wc.heap.size wc) (.cells #[.string name] 9))))
      have HRW := Aside0.mk (rowS (w := wc.alloc (.cells #[.string name] 9)) (base := wc.heap.size) (blk_new wc (.cells #[.string name] 9)) (Nat.le_refl _))
      have HBW := Aside0.mk (below_alloc (Below.refl wc.heap.size wc) (.cells #[.string name] 9))
      obtain ⟨hd0, hd1, hd2, hd3, hd4⟩ := HXW.out _ _ _ _ HT3.out
      go_upto_region 11 with fail
      generalize wc.alloc (.cells #[.string name] 9) = W4 at HT3 HRW HBW hd0 hd1 hd2 hd3 hd4 ⊢
      go_wp2_with (first | ((with_reducible refine gate_builtin (b := .append) (xs := #[.tmp 56, .tmp 59]) rfl ?_); at_builtin; refine Kd.R_append Kd.string (w0 := wc) wc.heap.size rfl (.tmp 56) (.tmp 59) 22 9 (.string ⟨#[]⟩) 16 rfl Try.underlying22 infoS rfl (by decide) (by omega) (.slice (some ⟨wc.heap.size, 0, none⟩) 1 1) [name] tn [.string tn] (fun _ => True) (fun _ => False) rfl rfl ?aP (fun _ hk => hk.elim) (fun _ _ => trivial) HRW.out HBW.out ?aS (by simp) ?_; (case aP => exact rfl); (case aS => exact HBW.out.size); intro v1 W5 ho hb hg_ hat_; clear hg_ hat_; obtain ⟨An, cn, en⟩ := Kd.R_slice ho; subst en; have HNMS : Aside0 (Kd.C Kd.string W5 An 2 [name, tn]) := ⟨(Kd.R_reads' ho).2.2⟩; have HT5 := Aside0.mk (HT2.out.trans (MTurn.below HT2.out.md hb)); clear ho hb hb0 hb1 hb2 hb3 hb4 hd0 hd1 hd2 hd3 hd4 HT3 HRW HBW; obtain ⟨hd0, hd1, hd2, hd3, hd4⟩ := HXW.out _ _ _ _ HT5.out))
      clear HT2 hd0 hd1 hd2 hd3 hd4
      have HEV : Aside0 (∀ s ∈ [name, tn], True) := ⟨fun _ _ => trivial⟩
      clear HEV
      go_loopg [6] (2 + 1) (fun kq v6 w' => ∃ i : Nat, v6 = .int .i64 i ∧ Aside0 (i + kq = 2 + 1) ∧ i ≤ 2 ∧ Aside0 (∀ j (hj : j < ([name, tn] : List ByteArray).length), j < i → mayN ([name, tn] : List ByteArray)[j] = true) ∧ Aside0 (Below W5.heap.size W5 w'))
      case atStart => exact ⟨0, rfl, ⟨by omega⟩, Nat.zero_le _, ⟨fun j _ h => by omega⟩, ⟨Below.refl _ _⟩⟩
      case round =>
        obtain ⟨i, rfl, HQ, hi, HM, HB⟩ := hrel
        have HT6 := Aside0.mk (HT5.out.trans (MTurn.below HT5.out.md HB.out))
        cases gk with
        | zero => exact absurd HQ.out (by omega)
        | succ k1 =>
          by_cases hin : i < 2
          · obtain ⟨ad, eA, hx⟩ := Kd.at_string (Kd.C_below HNMS.out HB.out) (i : Int) (by omega) (by omega)
            cases eA
            have hil : i < ([name, tn] : List ByteArray).length := hin
            rw [rdS_at _ i hil] at hx
            simp only [Int.toNat_natCast] at hx
            cases hmy : mayN ([name, tn] : List ByteArray)[i] with
            | true =>
              have HM2 : Aside0 (∀ j (hj : j < ([name, tn] : List ByteArray).length), j < i + 1 → mayN ([name, tn] : List ByteArray)[j] = true) := ⟨fun j hj hj2 => by
                by_cases e : j = i
                · subst e; exact hmy
                · exact HM.out j hj (by omega)⟩
              have hmf := may_at ([name, tn] : List ByteArray)[i]
              rw [hmy] at hmf
              have HMF := Aside0.mk hmf
              clear hmf hmy
              obtain ⟨s, hs⟩ : ∃ s, s = ([name, tn] : List ByteArray)[i]'hil := ⟨_, rfl⟩
              rw [← hs] at hx HMF
              clear hs hil
              go_wp2_with fail
              refine (affluxlaw06_may.calls s true wr HMF.out).mono ?_
              rintro e w6 ⟨rfl, ⟨q6, hw6⟩⟩
              have HB6 : Aside0 (Below W5.heap.size W5 w6) := ⟨by rw [hw6]; exact pw_below_drewN HB.out q6⟩
              clear hw6
              go_wp2
              go_roundg k1
              case measure => have := HQ.out; omega
              case rel => exact ⟨i + 1, by go_num, ⟨by have := HQ.out; omega⟩, by omega, HM2, HB6⟩
            | false =>
              have HBN := Aside0.mk (begin_no HU.out.2 hil hmy)
              rw [← HDD.out] at HBN
              have hmf := may_at ([name, tn] : List ByteArray)[i]
              rw [hmy] at hmf
              have HMF := Aside0.mk hmf
              clear hmf hmy
              obtain ⟨s, hs⟩ : ∃ s, s = ([name, tn] : List ByteArray)[i]'hil := ⟨_, rfl⟩
              rw [← hs] at hx HMF
              clear hs hil
              go_wp2_with fail
              refine (affluxlaw06_may.calls s false wr HMF.out).mono ?_
              rintro e w6 ⟨rfl, ⟨q6, hw6⟩⟩
              have HB6 : Aside0 (Below W5.heap.size W5 w6) := ⟨by rw [hw6]; exact pw_below_drewN HB.out q6⟩
              clear hw6
              go_wp2
              go_ret
              refine ⟨A, c, ?_⟩
              rw [does2_no HBN.out]
              exact ⟨rfl, HTA.out.trans (HT5.out.trans (MTurn.below HT5.out.md HB6.out))⟩
          · have HBY := Aside0.mk (begin_yes (names := [name, tn]) HU.out.2 (fun j hj => HM.out j hj (by have : j < 2 := hj; omega)))
            rw [← HDD.out] at HBY
            clear HM
            obtain ⟨hd0, hd1, hd2, hd3, hd4⟩ := HXW.out _ _ _ _ HT6.out
            go_wp2_with fail
            refine (find_calls base m A c d1 name wr HT6.out.md).mono ?_
            rintro e w7 ⟨fi, rfl, hfi, rfl⟩
            rcases hfi with ⟨rfl, hgn⟩ | ⟨k, hk, rfl, hgs⟩
            · have HSP := Aside0.mk (does2_none HBY.out hgn)
              clear hgn
              go_wp2
              go_ret
              refine ⟨A, c, ?_⟩
              rw [HSP.out]
              exact ⟨rfl, HTA.out.trans HT6.out⟩
            · have HSP := Aside0.mk (does2_some HBY.out hgs)
              have HNE := Aside0.mk (getF_some hgs).2
              obtain ⟨g5, e5, hy0, hy1, hy2, hyf, hyl⟩ := HT6.out.md.file k hk
              subst e5
              obtain ⟨f, hf⟩ : ∃ f, f = d1.files[k] := ⟨_, rfl⟩
              rw [← hf] at hy0 hy1 hy2 HSP HNE
              have HF := Aside0.mk hf
              have HKL := Aside0.mk hk
              clear hgs hf
              have hki : (k : Int) < (d1.files.length : Int) := by omega
              have hm1 : wr.cell? ⟨m, 1, none⟩ = some (.slice (some ⟨g5, 0, none⟩) d1.files.length c) := HT6.out.md.cell 1
              have HT7 := Aside0.mk (HT6.out.trans (MTurn.below HT6.out.md (below_alloc (Below.refl wr.heap.size wr) (.cells #[.string f.name, .string f.data, .int .i64 f.kept] 52))))
              obtain ⟨he0, he1, he2, he3, he4⟩ := HXW.out _ _ _ _ HT7.out
              have HNX : Aside0 (¬ ft m (some ⟨g5, 0, none⟩) c d1 wr.heap.size) := ⟨fun h9 => absurd (HT6.out.md.lt _ h9) (Nat.lt_irrefl _)⟩
              have HB0 : Aside0 ((wr.alloc (.cells #[.string f.name, .string f.data, .int .i64 f.kept] 52)).heap[wr.heap.size]? = some (.cells #[.string f.name, .string f.data, .int .i64 f.kept] 52 (0, 0)) ∧ wr.heap.size < (wr.alloc (.cells #[.string f.name, .string f.data, .int .i64 f.kept] 52)).heap.size ∧ W0.heap.size ≤ wr.heap.size) := ⟨blk_new wr _, by rw [alloc_size]; omega, HT6.out.kp.size⟩
              go_wp2_with fail
              refine (drop_calls base m (some ⟨g5, 0, none⟩) c d1 name _ HT7.out.md (Nat.le_trans HBL.out HT7.out.kp.size) HD1.out.2.count).mono ?_
              rintro e w8 ⟨rfl, A1, c1, ht⟩
              have HN8 := Aside0.mk (ht.not_ft HB0.out.2.1 HNX.out)
              have HB8 : Aside0 (w8.heap[wr.heap.size]? = some (.cells #[.string f.name, .string f.data, .int .i64 f.kept] 52 (0, 0))) := ⟨(ht.kp.block _ HB0.out.2.1 HNX.out).trans HB0.out.1⟩
              have HT8 := Aside0.mk (HT7.out.trans ht)
              clear ht he0 he1 he2 he3 he4 hy0 hy1 hy2 hm1 hd0 hd1 hd2 hd3 hd4
              have HT9 := Aside0.mk (HT8.out.setNew (i := 0) (v := .string tn) HB0.out.2.2 HN8.out)
              have hbl := blk_lt HB8.out
              have hb0 := blk_cell HB8.out 0
              have hb1 := blk_cell HB8.out 1
              have hb2 := blk_cell HB8.out 2
              have hbf := blk_frozen HB8.out 0
              simp only [List.getElem?_toArray, List.getElem?_cons_succ, List.getElem?_cons_zero] at hb0 hb1 hb2
              obtain ⟨he0, he1, he2, he3, he4⟩ := HXW.out _ _ _ _ HT8.out
              have HB9 : Aside0 ((w8.setCell ⟨wr.heap.size, 0, none⟩ (.string tn)).heap[wr.heap.size]? = some (.cells #[.string tn, .string f.data, .int .i64 f.kept] 52 (0, 0))) := ⟨blk_set HB8.out 0 _⟩
              have HLD : Aside0 ((delF d1.files name).length ≤ 100) := ⟨Nat.le_trans (delF_sub d1.files name).length_le HD1.out.2.count⟩
              go_upto_region 53 with fail
              clear hb0 hb1 hb2 hbf hbl he0 he1 he2 he3 he4
              generalize w8.setCell ⟨wr.heap.size, 0, none⟩ (.string tn) = w9 at HT9 HB9 ⊢
              have hb0 := blk_cell HB9.out 0
              have hb1 := blk_cell HB9.out 1
              have hb2 := blk_cell HB9.out 2
              simp only [List.getElem?_toArray, List.getElem?_cons_succ, List.getElem?_cons_zero] at hb0 hb1 hb2
              have HPC := Aside0.mk (put_calls base m A1 c1 { d1 with files := delF d1.files name } { f with name := tn } w9 HT9.out.md (Nat.le_trans HBL.out HT9.out.kp.size) HLD.out)
              go_wp2_with fail
              refine HPC.out.mono ?_
              rintro e w10 ⟨rfl, A2, c2, ht⟩
              have HT10 := Aside0.mk (HT9.out.trans ht)
              clear ht
              go_wp2
              go_ret
              refine ⟨A2, c2, ?_⟩
              rw [HSP.out]
              exact ⟨rfl, HTA.out.trans HT10.out⟩
end Go.Proofs.Ytihlacambdfmfaa.PK
/- disk: the law's own model: does, of kind 3. -/
namespace Go.Proofs.Ytihlacambdfmfaa.PK
open Go.RowKit Go.Proofs.YtihlacambdfmfaaW.PrintWords Go.Proofs.YtihlacambdfmfaaW.PrintLast Go.Proofs.YtihlacambdfmfaaW.PrintMore
open Go.Maps
open Go.Proofs.Ytihlacambdfmfaa.PR
set_option maxHeartbeats 4000000 in
set_option maxRecDepth 100000 in
theorem does3_calls (base m : Nat) (A : Option Addr) (c : Nat) (d : DS) (name tn : ByteArray) (A3 : Option Addr) (c3 : Nat) (data : List ByteArray) (n : Int) (A5 : Option Addr) (n5 c5 : Nat) (w : World) (h : Md w base m A c d) (hg : Good d) (has : Asc d.files) (hu : d.uses < 1000000) (hbs : base ≤ w.heap.size) (hC3 : Kd.C Kd.string w A3 data.length data) (hc3 : data.length ≤ c3) (hl3 : data.length ≤ 10) (hs3 : sumS data ≤ 1000000) (hA3 : ∀ ad, A3 = some ad → 0 < data.length → ¬ ft m A c d ad.block) (hz : (useD d).2 = true) :
    Calls Try.prog 21 #[.pointer (some ⟨m, 0, none⟩), .agg #[.int .i64 3, .string name, .string tn, .slice A3 data.length c3, .int .i64 n, .slice A5 n5 c5]] w fun e w' => ∃ A1 c1, e = .returned (.int .i64 (deleteD d name).2) ∧ MTurn w base m A c d A1 c1 (deleteD d name).1 w' := by
  have HTA := Aside0.mk (MTurn.below h (below_alloc (Below.refl w.heap.size w) (.cells #[.int .i64 3, .string name, .string tn, .slice A3 data.length c3, .int .i64 n, .slice A5 n5 c5] 47)))
  have HNB : Aside0 (¬ ft m A c d w.heap.size) := ⟨fun hk => absurd (h.lt _ hk) (Nat.lt_irrefl _)⟩
  obtain ⟨hof, hal⟩ := use_on hz
  have h2 := HTA.out.md.cell 2
  have h3 := HTA.out.md.cell 3
  have h4 := HTA.out.md.cell 4
  have h5 := HTA.out.md.cell 5
  have f4 := HTA.out.md.frozen 4
  have f5 := HTA.out.md.frozen 5
  unfold mdCells at h2 h3 h4 h5
  simp only [List.getElem?_toArray, List.getElem?_cons_succ, List.getElem?_cons_zero] at h2 h3 h4 h5
  rw [hof] at h2
  have HT1 := Aside0.mk (MTurn.set (d1 := { d with uses := d.uses + 1 }) HTA.out.md 5 (.int .i64 (d.uses + 1)) rfl rfl)
  have hwu : IntKind.i64.wrap (d.uses + 1) = d.uses + 1 := by rw [IntKind.wrap_i64]; have := hg.fair.uses0; omega
  have hml : m < (w.alloc (.cells #[.int .i64 3, .string name, .string tn, .slice A3 data.length c3, .int .i64 n, .slice A5 n5 c5] 47)).heap.size := by rw [alloc_size]; have := blk_lt h.blk; omega
  have HX : Aside0 (∀ i, (w.alloc (.cells #[.int .i64 3, .string name, .string tn, .slice A3 data.length c3, .int .i64 n, .slice A5 n5 c5] 47)).cell? ⟨w.heap.size, i, none⟩ = (#[.int .i64 3, .string name, .string tn, .slice A3 data.length c3, .int .i64 n, .slice A5 n5 c5] : Array Value)[i]?) := ⟨fun i => blk_cell (blk_new w _) i⟩
  have HC3 := Aside0.mk (fun w' (hk : Kp (ft m A c d) w w') => strC_kp hC3 hk hA3)
  have HBL : Aside0 (base ≤ (w.alloc (.cells #[.int .i64 3, .string name, .string tn, .slice A3 data.length c3, .int .i64 n, .slice A5 n5 c5] 47)).heap.size) := ⟨by rw [alloc_size]; omega⟩
  have HG := Aside0.mk hg
  have HAS := Aside0.mk has
  have HS3 := Aside0.mk hs3
  have HCC := Aside0.mk hc3
  have HU := Aside0.mk (And.intro hu hz)
  have HAL := Aside0.mk hal
  have HOF := Aside0.mk hof
  have HSP : Aside0 (∀ q : DS × Int, q = q → True) := ⟨fun _ _ => trivial⟩
  clear HSP
  clear h hg has hu hbs hC3 hc3 hs3 hA3 hz hof hal
  go_enter Try.func21, Try.ntmps21
  go_upto_region 1 with fail
  generalize w.alloc (.cells #[.int .i64 3, .string name, .string tn, .slice A3 data.length c3, .int .i64 n, .slice A5 n5 c5] 47) = W0 at HTA h2 h3 h4 h5 f4 f5 HT1 hml HX HBL ⊢
  go_upto_region 4 with fail
  have h31 := HT1.out.md.cell 3
  have h41 := HT1.out.md.cell 4
  have f41 := HT1.out.md.frozen 4
  unfold mdCells at h31 h41
  simp only [List.getElem?_toArray, List.getElem?_cons_succ, List.getElem?_cons_zero] at h31 h41
  have hml1 : m < (W0.setCell ⟨m, 5, none⟩ (.int .i64 (d.uses + 1))).heap.size := blk_lt HT1.out.md.blk
  clear h2 h3 h4 h5 f4 f5 hml
  generalize W0.setCell ⟨m, 5, none⟩ (.int .i64 (d.uses + 1)) = W1 at HT1 h31 h41 f41 hml1 ⊢
  go_cut [35] (fun s35 wx => s35 = .bool false ∧ wx = W1)
  case first =>
    cases harm : d.armed with
    | true =>
      rw [harm] at h31
      have hl0 : (d.left == 0) = false := beq_eq_false_iff_ne.2 (fun e => HAL.out ⟨harm, e⟩)
      clear harm
      go_wp2_with fail
      go_meet
      exact ⟨rfl, rfl⟩
    | false =>
      rw [harm] at h31
      clear harm
      go_wp2_with fail
      go_meet
      exact ⟨rfl, rfl⟩
  case rest =>
    obtain ⟨rfl, hwc⟩ := hcut
    subst hwc
    have hwl : IntKind.i64.wrap (d.left - 1) = d.left - 1 := by rw [IntKind.wrap_i64]; have := HG.out.fair.left0; have := HG.out.fair.left1; omega
    go_upto_if 42 with fail
    go_cut [] (fun wx => Aside0 (MTurn W0 base m A c d A c (useD d).1 wx))
    case first =>
      cases harm : d.armed with
      | true =>
        have HT2 := Aside0.mk (HT1.out.trans (MTurn.set (d1 := { ({ d with uses := d.uses + 1 } : DS) with left := d.left - 1 }) HT1.out.md 4 (.int .i64 (d.left - 1)) rfl rfl))
        have HUA := Aside0.mk (use_armed HOF.out HAL.out harm)
        clear harm
        go_wp2_with fail
        go_meet
        exact ⟨by rw [HUA.out]; exact HT2.out⟩
      | false =>
        have HUA := Aside0.mk (use_plain HOF.out harm)
        clear harm
        go_wp2_with fail
        go_meet
        exact ⟨by rw [HUA.out]; exact HT1.out⟩
    case rest =>
      have HT2 := hcut
      clear hcut h31 h41 f41 hml1 hwu hwl HT1
      have HD1 : Aside0 ((useD d).1.files = d.files ∧ Good (useD d).1) := ⟨useD_files d, HG.out.use HU.out.1⟩
      obtain ⟨d1, hd1⟩ : ∃ d1, d1 = (useD d).1 := ⟨_, rfl⟩
      have HDD := Aside0.mk hd1
      rw [← hd1] at HT2 HD1
      clear hd1
      have HXW : Aside0 (∀ (A' : Option Addr) (c' : Nat) (d' : DS) (w5 : World), MTurn W0 base m A c d A' c' d' w5 → w5.cell? ⟨w.heap.size, 0, none⟩ = some (.int .i64 3) ∧ w5.cell? ⟨w.heap.size, 1, none⟩ = some (.string name) ∧ w5.cell? ⟨w.heap.size, 2, none⟩ = some (.string tn) ∧ w5.cell? ⟨w.heap.size, 3, none⟩ = some (.slice A3 data.length c3) ∧ w5.cell? ⟨w.heap.size, 4, none⟩ = some (.int .i64 n)) := ⟨fun A' c' d' w5 t => ⟨t.cell HNB.out (HX.out 0), t.cell HNB.out (HX.out 1), t.cell HNB.out (HX.out 2), t.cell HNB.out (HX.out 3), t.cell HNB.out (HX.out 4)⟩⟩
      obtain ⟨hb0, hb1, hb2, hb3, hb4⟩ := HXW.out _ _ _ _ HT2.out
      have HNMS : Aside0 (Kd.C Kd.string (wc.alloc (.cells #[.string name] 9)) (some ⟨wc.heap.size, 0, none⟩) 1 [name]) := ⟨strC_blk (l := [name]) (blk_new wc _) (by simp)⟩
      have HT5 := Aside0.mk (HT2.out.trans (MTurn.below HT2.out.md (below_alloc (Below.refl wc.heap.size wc) (.cells #[.string name] 9))))
      clear HT2
      obtain ⟨hd0, hd1, hd2, hd3, hd4⟩ := HXW.out _ _ _ _ HT5.out
      go_wp2_with fail
      clear hb0 hb1 hb2 hb3 hb4 hd0 hd1 hd2 hd3 hd4
      generalize wc.alloc (.cells #[.string name] 9) = W5 at HT5 HNMS ⊢
      generalize wc.heap.size = nb at HNMS ⊢
      have HEV : Aside0 (∀ s ∈ [name], True) := ⟨fun _ _ => trivial⟩
      clear HEV
      go_loopg [6] (1 + 1) (fun kq v6 w' => ∃ i : Nat, v6 = .int .i64 i ∧ Aside0 (i + kq = 1 + 1) ∧ i ≤ 1 ∧ Aside0 (∀ j (hj : j < ([name] : List ByteArray).length), j < i → mayN ([name] : List ByteArray)[j] = true) ∧ Aside0 (Below W5.heap.size W5 w'))
      case atStart => exact ⟨0, rfl, ⟨by omega⟩, Nat.zero_le _, ⟨fun j _ h => by omega⟩, ⟨Below.refl _ _⟩⟩
      case round =>
        obtain ⟨i, rfl, HQ, hi, HM, HB⟩ := hrel
        have HT6 := Aside0.mk (HT5.out.trans (MTurn.below HT5.out.md HB.out))
        cases gk with
        | zero => exact absurd HQ.out (by omega)
        | succ k1 =>
          by_cases hin : i < 1
          · obtain ⟨ad, eA, hx⟩ := Kd.at_string (Kd.C_below HNMS.out HB.out) (i : Int) (by omega) (by omega)
            cases eA
            have hil : i < ([name] : List ByteArray).length := hin
            rw [rdS_at _ i hil] at hx
            simp only [Int.toNat_natCast] at hx
            have hadd : (⟨nb, 0, none⟩ : Addr).add i = ⟨nb, i, none⟩ := by rw [add_at, Nat.zero_add]
            rw [hadd] at hx
            clear hadd
            cases hmy : mayN ([name] : List ByteArray)[i] with
            | true =>
              have HM2 : Aside0 (∀ j (hj : j < ([name] : List ByteArray).length), j < i + 1 → mayN ([name] : List ByteArray)[j] = true) := ⟨fun j hj hj2 => by
                by_cases e : j = i
                · subst e; exact hmy
                · exact HM.out j hj (by omega)⟩
              have hmf := may_at ([name] : List ByteArray)[i]
              rw [hmy] at hmf
              have HMF := Aside0.mk hmf
              clear hmf hmy
              obtain ⟨s, hs⟩ : ∃ s, s = ([name] : List ByteArray)[i]'hil := ⟨_, rfl⟩
              rw [← hs] at hx HMF
              clear hs hil
              go_wp2_with fail
              refine (affluxlaw06_may.calls s true wr HMF.out).mono ?_
              rintro e w6 ⟨rfl, ⟨q6, hw6⟩⟩
              have HB6 : Aside0 (Below W5.heap.size W5 w6) := ⟨by rw [hw6]; exact pw_below_drewN HB.out q6⟩
              clear hw6
              go_wp2
              go_roundg k1
              case measure => have := HQ.out; omega
              case rel => exact ⟨i + 1, by go_num, ⟨by have := HQ.out; omega⟩, by omega, HM2, HB6⟩
            | false =>
              have HBN := Aside0.mk (begin_no HU.out.2 hil hmy)
              rw [← HDD.out] at HBN
              have hmf := may_at ([name] : List ByteArray)[i]
              rw [hmy] at hmf
              have HMF := Aside0.mk hmf
              clear hmf hmy
              obtain ⟨s, hs⟩ : ∃ s, s = ([name] : List ByteArray)[i]'hil := ⟨_, rfl⟩
              rw [← hs] at hx HMF
              clear hs hil
              go_wp2_with fail
              refine (affluxlaw06_may.calls s false wr HMF.out).mono ?_
              rintro e w6 ⟨rfl, ⟨q6, hw6⟩⟩
              have HB6 : Aside0 (Below W5.heap.size W5 w6) := ⟨by rw [hw6]; exact pw_below_drewN HB.out q6⟩
              clear hw6
              go_wp2
              go_ret
              refine ⟨A, c, ?_⟩
              rw [does3_no HBN.out]
              exact ⟨rfl, HTA.out.trans (HT5.out.trans (MTurn.below HT5.out.md HB6.out))⟩
          · have HBY := Aside0.mk (begin_yes (names := [name]) HU.out.2 (fun j hj => HM.out j hj (by have : j < 1 := hj; omega)))
            rw [← HDD.out] at HBY
            clear HM
            obtain ⟨hd0, hd1, hd2, hd3, hd4⟩ := HXW.out _ _ _ _ HT6.out
            go_wp2_with fail
            refine (find_calls base m A c d1 name wr HT6.out.md).mono ?_
            rintro e w7 ⟨fi, rfl, hfi, rfl⟩
            rcases hfi with ⟨rfl, hgn⟩ | ⟨k, hk, rfl, hgs⟩
            · have HSP := Aside0.mk (does3_none HBY.out HD1.out.1 hgn)
              clear hgn
              go_wp2
              go_ret
              refine ⟨A, c, ?_⟩
              rw [HSP.out]
              exact ⟨rfl, HTA.out.trans HT6.out⟩
            · have HSP := Aside0.mk (does3_some HBY.out HD1.out.1 hgs)
              have HNE := Aside0.mk (getF_some hgs).2
              obtain ⟨g5, e5, hy0, hy1, hy2, hyf, hyl⟩ := HT6.out.md.file k hk
              subst e5
              obtain ⟨f, hf⟩ : ∃ f, f = d1.files[k] := ⟨_, rfl⟩
              rw [← hf] at hy0 hy1 hy2 HNE
              have HF := Aside0.mk hf
              have HKL := Aside0.mk hk
              clear hgs hf
              have hki : (k : Int) < (d1.files.length : Int) := by omega
              have hm1 : wr.cell? ⟨m, 1, none⟩ = some (.slice (some ⟨g5, 0, none⟩) d1.files.length c) := HT6.out.md.cell 1
              have HT7 := Aside0.mk (HT6.out.trans (MTurn.below HT6.out.md (below_alloc (Below.refl wr.heap.size wr) (.cells #[.string f.name, .string f.data, .int .i64 f.kept] 52))))
              obtain ⟨he0, he1, he2, he3, he4⟩ := HXW.out _ _ _ _ HT7.out
              go_wp2_with fail
              refine (drop_calls base m (some ⟨g5, 0, none⟩) c d1 name _ HT7.out.md (Nat.le_trans HBL.out HT7.out.kp.size) HD1.out.2.count).mono ?_
              rintro e w8 ⟨rfl, A1, c1, ht⟩
              have HT8 := Aside0.mk (HT7.out.trans ht)
              clear ht
              go_wp2
              go_ret
              refine ⟨A1, c1, ?_⟩
              rw [HSP.out]
              exact ⟨rfl, HTA.out.trans HT8.out⟩
end Go.Proofs.Ytihlacambdfmfaa.PK
/- disk: the law's own model: does, of kind 4. -/
namespace Go.Proofs.Ytihlacambdfmfaa.PK
open Go.RowKit Go.Proofs.YtihlacambdfmfaaW.PrintWords Go.Proofs.YtihlacambdfmfaaW.PrintLast Go.Proofs.YtihlacambdfmfaaW.PrintMore
open Go.Maps
open Go.Proofs.Ytihlacambdfmfaa.PR
set_option maxHeartbeats 4000000 in
set_option maxRecDepth 100000 in
theorem does4_calls (base m : Nat) (A : Option Addr) (c : Nat) (d : DS) (name tn : ByteArray) (A3 : Option Addr) (c3 : Nat) (data : List ByteArray) (n : Int) (A5 : Option Addr) (n5 c5 : Nat) (w : World) (h : Md w base m A c d) (hg : Good d) (has : Asc d.files) (hu : d.uses < 1000000) (hbs : base ≤ w.heap.size) (hC3 : Kd.C Kd.string w A3 data.length data) (hc3 : data.length ≤ c3) (hl3 : data.length ≤ 10) (hs3 : sumS data ≤ 1000000) (hA3 : ∀ ad, A3 = some ad → 0 < data.length → ¬ ft m A c d ad.block) (hz : (useD d).2 = true) :
    Calls Try.prog 21 #[.pointer (some ⟨m, 0, none⟩), .agg #[.int .i64 4, .string name, .string tn, .slice A3 data.length c3, .int .i64 n, .slice A5 n5 c5]] w fun e w' => ∃ A1 c1, e = .returned (.int .i64 (cutD d name n).2) ∧ MTurn w base m A c d A1 c1 (cutD d name n).1 w' := by
  have HTA := Aside0.mk (MTurn.below h (below_alloc (Below.refl w.heap.size w) (.cells #[.int .i64 4, .string name, .string tn, .slice A3 data.length c3, .int .i64 n, .slice A5 n5 c5] 47)))
  have HNB : Aside0 (¬ ft m A c d w.heap.size) := ⟨fun hk => absurd (h.lt _ hk) (Nat.lt_irrefl _)⟩
  obtain ⟨hof, hal⟩ := use_on hz
  have h2 := HTA.out.md.cell 2
  have h3 := HTA.out.md.cell 3
  have h4 := HTA.out.md.cell 4
  have h5 := HTA.out.md.cell 5
  have f4 := HTA.out.md.frozen 4
  have f5 := HTA.out.md.frozen 5
  unfold mdCells at h2 h3 h4 h5
  simp only [List.getElem?_toArray, List.getElem?_cons_succ, List.getElem?_cons_zero] at h2 h3 h4 h5
  rw [hof] at h2
  have HT1 := Aside0.mk (MTurn.set (d1 := { d with uses := d.uses + 1 }) HTA.out.md 5 (.int .i64 (d.uses + 1)) rfl rfl)
  have hwu : IntKind.i64.wrap (d.uses + 1) = d.uses + 1 := by rw [IntKind.wrap_i64]; have := hg.fair.uses0; omega
  have hml : m < (w.alloc (.cells #[.int .i64 4, .string name, .string tn, .slice A3 data.length c3, .int .i64 n, .slice A5 n5 c5] 47)).heap.size := by rw [alloc_size]; have := blk_lt h.blk; omega
  have HX : Aside0 (∀ i, (w.alloc (.cells #[.int .i64 4, .string name, .string tn, .slice A3 data.length c3, .int .i64 n, .slice A5 n5 c5] 47)).cell? ⟨w.heap.size, i, none⟩ = (#[.int .i64 4, .string name, .string tn, .slice A3 data.length c3, .int .i64 n, .slice A5 n5 c5] : Array Value)[i]?) := ⟨fun i => blk_cell (blk_new w _) i⟩
  have HC3 := Aside0.mk (fun w' (hk : Kp (ft m A c d) w w') => strC_kp hC3 hk hA3)
  have HBL : Aside0 (base ≤ (w.alloc (.cells #[.int .i64 4, .string name, .string tn, .slice A3 data.length c3, .int .i64 n, .slice A5 n5 c5] 47)).heap.size) := ⟨by rw [alloc_size]; omega⟩
  have HG := Aside0.mk hg
  have HAS := Aside0.mk has
  have HS3 := Aside0.mk hs3
  have HCC := Aside0.mk hc3
  have HU := Aside0.mk (And.intro hu hz)
  have HAL := Aside0.mk hal
  have HOF := Aside0.mk hof
  have HSP : Aside0 (∀ q : DS × Int, q = q → True) := ⟨fun _ _ => trivial⟩
  clear HSP
  clear h hg has hu hbs hC3 hc3 hs3 hA3 hz hof hal
  go_enter Try.func21, Try.ntmps21
  go_upto_region 1 with fail
  generalize w.alloc (.cells #[.int .i64 4, .string name, .string tn, .slice A3 data.length c3, .int .i64 n, .slice A5 n5 c5] 47) = W0 at HTA h2 h3 h4 h5 f4 f5 HT1 hml HX HBL ⊢
  go_upto_region 4 with fail
  have h31 := HT1.out.md.cell 3
  have h41 := HT1.out.md.cell 4
  have f41 := HT1.out.md.frozen 4
  unfold mdCells at h31 h41
  simp only [List.getElem?_toArray, List.getElem?_cons_succ, List.getElem?_cons_zero] at h31 h41
  have hml1 : m < (W0.setCell ⟨m, 5, none⟩ (.int .i64 (d.uses + 1))).heap.size := blk_lt HT1.out.md.blk
  clear h2 h3 h4 h5 f4 f5 hml
  generalize W0.setCell ⟨m, 5, none⟩ (.int .i64 (d.uses + 1)) = W1 at HT1 h31 h41 f41 hml1 ⊢
  go_cut [35] (fun s35 wx => s35 = .bool false ∧ wx = W1)
  case first =>
    cases harm : d.armed with
    | true =>
      rw [harm] at h31
      have hl0 : (d.left == 0) = false := beq_eq_false_iff_ne.2 (fun e => HAL.out ⟨harm, e⟩)
      clear harm
      go_wp2_with fail
      go_meet
      exact ⟨rfl, rfl⟩
    | false =>
      rw [harm] at h31
      clear harm
      go_wp2_with fail
      go_meet
      exact ⟨rfl, rfl⟩
  case rest =>
    obtain ⟨rfl, hwc⟩ := hcut
    subst hwc
    have hwl : IntKind.i64.wrap (d.left - 1) = d.left - 1 := by rw [IntKind.wrap_i64]; have := HG.out.fair.left0; have := HG.out.fair.left1; omega
    go_upto_if 42 with fail
    go_cut [] (fun wx => Aside0 (MTurn W0 base m A c d A c (useD d).1 wx))
    case first =>
      cases harm : d.armed with
      | true =>
        have HT2 := Aside0.mk (HT1.out.trans (MTurn.set (d1 := { ({ d with uses := d.uses + 1 } : DS) with left := d.left - 1 }) HT1.out.md 4 (.int .i64 (d.left - 1)) rfl rfl))
        have HUA := Aside0.mk (use_armed HOF.out HAL.out harm)
        clear harm
        go_wp2_with fail
        go_meet
        exact ⟨by rw [HUA.out]; exact HT2.out⟩
      | false =>
        have HUA := Aside0.mk (use_plain HOF.out harm)
        clear harm
        go_wp2_with fail
        go_meet
        exact ⟨by rw [HUA.out]; exact HT1.out⟩
    case rest =>
      have HT2 := hcut
      clear hcut h31 h41 f41 hml1 hwu hwl HT1
      have HD1 : Aside0 ((useD d).1.files = d.files ∧ Good (useD d).1) := ⟨useD_files d, HG.out.use HU.out.1⟩
      obtain ⟨d1, hd1⟩ : ∃ d1, d1 = (useD d).1 := ⟨_, rfl⟩
      have HDD := Aside0.mk hd1
      rw [← hd1] at HT2 HD1
      clear hd1
      have HXW : Aside0 (∀ (A' : Option Addr) (c' : Nat) (d' : DS) (w5 : World), MTurn W0 base m A c d A' c' d' w5 → w5.cell? ⟨w.heap.size, 0, none⟩ = some (.int .i64 4) ∧ w5.cell? ⟨w.heap.size, 1, none⟩ = some (.string name) ∧ w5.cell? ⟨w.heap.size, 2, none⟩ = some (.string tn) ∧ w5.cell? ⟨w.heap.size, 3, none⟩ = some (.slice A3 data.length c3) ∧ w5.cell? ⟨w.heap.size, 4, none⟩ = some (.int .i64 n)) := ⟨fun A' c' d' w5 t => ⟨t.cell HNB.out (HX.out 0), t.cell HNB.out (HX.out 1), t.cell HNB.out (HX.out 2), t.cell HNB.out (HX.out 3), t.cell HNB.out (HX.out 4)⟩⟩
      obtain ⟨hb0, hb1, hb2, hb3, hb4⟩ := HXW.out _ _ _ _ HT2.out
      have HNMS : Aside0 (Kd.C Kd.string (wc.alloc (.cells #[.string name] 9)) (some ⟨wc.heap.size, 0, none⟩) 1 [name]) := ⟨strC_blk (l := [name]) (blk_new wc _) (by simp)⟩
      have HT5 := Aside0.mk (HT2.out.trans (MTurn.below HT2.out.md (below_alloc (Below.refl wc.heap.size wc) (.cells #[.string name] 9))))
      clear HT2
      obtain ⟨hd0, hd1, hd2, hd3, hd4⟩ := HXW.out _ _ _ _ HT5.out
      go_wp2_with fail
      clear hb0 hb1 hb2 hb3 hb4 hd0 hd1 hd2 hd3 hd4
      generalize wc.alloc (.cells #[.string name] 9) = W5 at HT5 HNMS ⊢
      generalize wc.heap.size = nb at HNMS ⊢
      have HEV : Aside0 (∀ s ∈ [name], True) := ⟨fun _ _ => trivial⟩
      clear HEV
      go_loopg [6] (1 + 1) (fun kq v6 w' => ∃ i : Nat, v6 = .int .i64 i ∧ Aside0 (i + kq = 1 + 1) ∧ i ≤ 1 ∧ Aside0 (∀ j (hj : j < ([name] : List ByteArray).length), j < i → mayN ([name] : List ByteArray)[j] = true) ∧ Aside0 (Below W5.heap.size W5 w'))
      case atStart => exact ⟨0, rfl, ⟨by omega⟩, Nat.zero_le _, ⟨fun j _ h => by omega⟩, ⟨Below.refl _ _⟩⟩
      case round =>
        obtain ⟨i, rfl, HQ, hi, HM, HB⟩ := hrel
        have HT6 := Aside0.mk (HT5.out.trans (MTurn.below HT5.out.md HB.out))
        cases gk with
        | zero => exact absurd HQ.out (by omega)
        | succ k1 =>
          by_cases hin : i < 1
          · obtain ⟨ad, eA, hx⟩ := Kd.at_string (Kd.C_below HNMS.out HB.out) (i : Int) (by omega) (by omega)
            cases eA
            have hil : i < ([name] : List ByteArray).length := hin
            rw [rdS_at _ i hil] at hx
            simp only [Int.toNat_natCast] at hx
            have hadd : (⟨nb, 0, none⟩ : Addr).add i = ⟨nb, i, none⟩ := by rw [add_at, Nat.zero_add]
            rw [hadd] at hx
            clear hadd
            cases hmy : mayN ([name] : List ByteArray)[i] with
            | true =>
              have HM2 : Aside0 (∀ j (hj : j < ([name] : List ByteArray).length), j < i + 1 → mayN ([name] : List ByteArray)[j] = true) := ⟨fun j hj hj2 => by
                by_cases e : j = i
                · subst e; exact hmy
                · exact HM.out j hj (by omega)⟩
              have hmf := may_at ([name] : List ByteArray)[i]
              rw [hmy] at hmf
              have HMF := Aside0.mk hmf
              clear hmf hmy
              obtain ⟨s, hs⟩ : ∃ s, s = ([name] : List ByteArray)[i]'hil := ⟨_, rfl⟩
              rw [← hs] at hx HMF
              clear hs hil
              go_wp2_with fail
              refine (affluxlaw06_may.calls s true wr HMF.out).mono ?_
              rintro e w6 ⟨rfl, ⟨q6, hw6⟩⟩
              have HB6 : Aside0 (Below W5.heap.size W5 w6) := ⟨by rw [hw6]; exact pw_below_drewN HB.out q6⟩
              clear hw6
              go_wp2
              go_roundg k1
              case measure => have := HQ.out; omega
              case rel => exact ⟨i + 1, by go_num, ⟨by have := HQ.out; omega⟩, by omega, HM2, HB6⟩
            | false =>
              have HBN := Aside0.mk (begin_no HU.out.2 hil hmy)
              rw [← HDD.out] at HBN
              have hmf := may_at ([name] : List ByteArray)[i]
              rw [hmy] at hmf
              have HMF := Aside0.mk hmf
              clear hmf hmy
              obtain ⟨s, hs⟩ : ∃ s, s = ([name] : List ByteArray)[i]'hil := ⟨_, rfl⟩
              rw [← hs] at hx HMF
              clear hs hil
              go_wp2_with fail
              refine (affluxlaw06_may.calls s false wr HMF.out).mono ?_
              rintro e w6 ⟨rfl, ⟨q6, hw6⟩⟩
              have HB6 : Aside0 (Below W5.heap.size W5 w6) := ⟨by rw [hw6]; exact pw_below_drewN HB.out q6⟩
              clear hw6
              go_wp2
              go_ret
              refine ⟨A, c, ?_⟩
              rw [does4_no HBN.out]
              exact ⟨rfl, HTA.out.trans (HT5.out.trans (MTurn.below HT5.out.md HB6.out))⟩
          · have HBY := Aside0.mk (begin_yes (names := [name]) HU.out.2 (fun j hj => HM.out j hj (by have : j < 1 := hj; omega)))
            rw [← HDD.out] at HBY
            clear HM
            obtain ⟨hd0, hd1, hd2, hd3, hd4⟩ := HXW.out _ _ _ _ HT6.out
            go_wp2_with fail
            refine (find_calls base m A c d1 name wr HT6.out.md).mono ?_
            rintro e w7 ⟨fi, rfl, hfi, rfl⟩
            rcases hfi with ⟨rfl, hgn⟩ | ⟨k, hk, rfl, hgs⟩
            · have HSP := Aside0.mk (does4_none (n := n) HBY.out HD1.out.1 hgn)
              clear hgn
              go_wp2
              go_ret
              refine ⟨A, c, ?_⟩
              rw [HSP.out]
              exact ⟨rfl, HTA.out.trans HT6.out⟩
            · have HSP := Aside0.mk (does4_some (n := n) HBY.out HD1.out.1 hgs)
              have HNE := Aside0.mk (getF_some hgs).2
              obtain ⟨g5, e5, hy0, hy1, hy2, hyf, hyl⟩ := HT6.out.md.file k hk
              subst e5
              obtain ⟨f, hf⟩ : ∃ f, f = d1.files[k] := ⟨_, rfl⟩
              rw [← hf] at hy0 hy1 hy2 HSP HNE
              have HF := Aside0.mk hf
              have HKL := Aside0.mk hk
              clear hgs hf
              have hki : (k : Int) < (d1.files.length : Int) := by omega
              have hm1 : wr.cell? ⟨m, 1, none⟩ = some (.slice (some ⟨g5, 0, none⟩) d1.files.length c) := HT6.out.md.cell 1
              have HT7 := Aside0.mk (HT6.out.trans (MTurn.below HT6.out.md (below_alloc (Below.refl wr.heap.size wr) (.cells #[.string f.name, .string f.data, .int .i64 f.kept] 52))))
              obtain ⟨he0, he1, he2, he3, he4⟩ := HXW.out _ _ _ _ HT7.out
              by_cases hn0 : n < 0
              · have HS2 : Aside0 (cutD d name n = (d1, 1)) := ⟨by rw [HSP.out, if_pos (.inl hn0)]⟩
                go_wp2
                go_ret
                refine ⟨some ⟨g5, 0, none⟩, c, ?_⟩
                rw [HS2.out]
                exact ⟨rfl, HTA.out.trans HT7.out⟩
              · by_cases hn1 : (f.data.size : Int) < n
                · have HS2 : Aside0 (cutD d name n = (d1, 1)) := ⟨by rw [HSP.out, if_pos (.inr hn1)]⟩
                  go_wp2
                  go_ret
                  refine ⟨some ⟨g5, 0, none⟩, c, ?_⟩
                  rw [HS2.out]
                  exact ⟨rfl, HTA.out.trans HT7.out⟩
                · obtain ⟨s, rfl⟩ : ∃ s : Nat, n = (s : Int) := ⟨n.toNat, by omega⟩
                  have hsl : s ≤ f.data.size := by omega
                  have HS2 : Aside0 (cutD d name (s : Int) = ({ d1 with files := d1.files.set k (cutFl s f) }, 0)) := ⟨by rw [HSP.out, if_neg (by rintro (h1 | h1) <;> omega), Int.toNat_natCast, ← HNE.out, HF.out, updF_set HD1.out.2.names k HKL.out]⟩
                  have HT8 := Aside0.mk (HT7.out.trans (MTurn.elem3 HT7.out.md k HKL.out (cutFl s f)))
                  have HT9 := Aside0.mk (HT8.out.trans (MTurn.below HT8.out.md (below_drew (Below.refl _ _))))
                  obtain ⟨g6, e6, hz0, hz1, hz2, hzf, hzl⟩ := HT7.out.md.file k HKL.out
                  injection e6 with e6
                  injection e6 with e6
                  subst e6
                  rw [← HF.out] at hz0 hz1 hz2
                  have hm2 : (wr.alloc (.cells #[.string f.name, .string f.data, .int .i64 f.kept] 52)).cell? ⟨m, 1, none⟩ = some (.slice (some ⟨g5, 0, none⟩) d1.files.length c) := HT7.out.md.cell 1
                  have hb0 := blk_cell (blk_new wr (.cells #[.string f.name, .string f.data, .int .i64 f.kept] 52)) 0
                  have hb1 := blk_cell (blk_new wr (.cells #[.string f.name, .string f.data, .int .i64 f.kept] 52)) 1
                  have hb2 := blk_cell (blk_new wr (.cells #[.string f.name, .string f.data, .int .i64 f.kept] 52)) 2
                  simp only [List.getElem?_toArray, List.getElem?_cons_succ, List.getElem?_cons_zero] at hb0 hb1 hb2
                  have hf0 := hzf (k * 3)
                  have hf1 := hzf (k * 3 + 1)
                  have hf2 := hzf (k * 3 + 2)
                  go_upto_region 49 with fail
                  clear hy0 hy1 hy2 hyf hyl hm1 hd0 hd1 hd2 hd3 hd4
                  generalize wr.alloc (.cells #[.string f.name, .string f.data, .int .i64 f.kept] 52) = W8 at *
                  generalize wr.heap.size = b8 at *
                  go_region
                  go_wp2
                  go_ret
                  refine ⟨some ⟨g5, 0, none⟩, c, ?_⟩
                  rw [HS2.out]
                  exact ⟨rfl, HTA.out.trans HT9.out⟩
end Go.Proofs.Ytihlacambdfmfaa.PK
/- DiskPlays: what its walk wants, plain. -/
namespace Go.Proofs.Ytihlacambdfmfaa.PK
open Go.RowKit Go.Proofs.YtihlacambdfmfaaW.PrintWords Go.Proofs.YtihlacambdfmfaaW.PrintLast Go.Proofs.YtihlacambdfmfaaW.PrintMore
open Go.Maps
open Go.Proofs.Ytihlacambdfmfaa.PR
theorem begin_off {d : DS} {names : List ByteArray} (h : (useD d).2 = false) : beginD d names = ((useD d).1, 7) := by
  unfold beginD
  rw [h, if_neg (by decide)]
theorem there_off {d : DS} {names : List ByteArray} (h : (useD d).2 = false) : thereD d names = ((useD d).1, 7) := by
  unfold thereD
  rw [begin_off h, if_neg (by show ¬ (7 : Int) = 0; decide)]
theorem off0 {d d' : DS} {name : ByteArray} {data : List ByteArray} (h : (useD d).2 = false) (hi : AppIs d name data d') : appendC d name data = 7 ∧ d' = (useD d).1 := by
  have hc : appendC d name data = 7 := by
    unfold appendC
    rw [begin_off h, if_neg (by show ¬ (7 : Int) = 0; decide)]
  exact ⟨hc, by rw [hi.1 (by rw [hc]; decide), begin_off h]⟩
theorem off1 {d : DS} {names : List ByteArray} (h : (useD d).2 = false) : syncD d names = ((useD d).1, 7) := by
  unfold syncD
  rw [there_off h, if_neg (by show ¬ (7 : Int) = 0; decide)]
theorem off2 {d : DS} {a c : ByteArray} (h : (useD d).2 = false) : renameD d a c = ((useD d).1, 7) := by
  unfold renameD
  rw [begin_off h, if_neg (by show ¬ (7 : Int) = 0; decide)]
theorem off3 {d : DS} {name : ByteArray} (h : (useD d).2 = false) : deleteD d name = ((useD d).1, 7) := by
  unfold deleteD
  rw [there_off h, if_neg (by show ¬ (7 : Int) = 0; decide)]
theorem off4 {d : DS} {name : ByteArray} {n : Int} (h : (useD d).2 = false) : cutD d name n = ((useD d).1, 7) := by
  unfold cutD
  rw [there_off h, if_neg (by show ¬ (7 : Int) = 0; decide)]
/-- What Append left is what the model's append leaves, at that block. -/
theorem app_is {d d' : DS} {name : ByteArray} {data : List ByteArray} (hi : AppIs d name data d') : ∃ blk, appD d name data blk = (d', appendC d name data) := by
  by_cases h : appendC d name data = 0
  · obtain ⟨blk, rfl⟩ := hi.2 h
    refine ⟨blk, ?_⟩
    unfold appD
    rw [if_pos h, h]
  · refine ⟨0, ?_⟩
    unfold appD
    rw [if_neg h, hi.1 h]
theorem sync_uses (d : DS) (names : List ByteArray) : (syncD d names).1.uses = (useD d).1.uses := by
  unfold syncD
  split <;> rfl
theorem delete_uses (d : DS) (name : ByteArray) : (deleteD d name).1.uses = (useD d).1.uses := by
  unfold deleteD
  split <;> rfl
theorem rename_uses (d : DS) (a c : ByteArray) : (renameD d a c).1.uses = (useD d).1.uses := by
  unfold renameD
  split
  · split <;> rfl
  · rfl
theorem cut_uses (d : DS) (name : ByteArray) (n : Int) : (cutD d name n).1.uses = (useD d).1.uses := by
  unfold cutD
  split
  · split
    · rfl
    · split <;> rfl
  · rfl
theorem put_uses {d d' : DS} {name data : ByteArray} (h : PutIs d name data d') : d'.uses = d.uses := by
  by_cases h0 : putC d name data = 0
  · obtain ⟨blk, rfl⟩ := h.2 h0
    rfl
  · rw [h.1 h0]
/-- The model lives on beside what a use left of the disk. -/
theorem Md.turn {w w' : World} {g b base m : Nat} {A : Option Addr} {c : Nat} {d d' dm : DS} (hm : Md w base m A c dm) (hd : Dk w g b d) (t : Turn w g b d d' w') : Md w' base m A c dm :=
  hm.same fun k hk => t.kp.block k (hm.lt k hk) (fun hf => apart hd hm k hf hk)
/-- The disk lives on beside what the model's functions left. -/
theorem Run.mturn {w0 w w' : World} {g b base m : Nat} {A A1 : Option Addr} {c c1 : Nat} {d dm dm1 : DS} (h : Run w0 w g b d) (hm : Md w base m A c dm) (hb : base = w0.heap.size) (t : MTurn w base m A c dm A1 c1 dm1 w') : Run w0 w' g b d :=
  ⟨h.dk.same fun k hk => t.kp.block k (h.dk.lt k hk) (apart h.dk hm k hk), h.bel.trans (t.kp.below h.bel.size (fun k hk => by rw [← hb]; exact hm.base_le k hk)), h.ge, h.good, h.asc⟩
theorem Md.new (w : World) (base : Nat) (room : Int) (hb : base ≤ w.heap.size) : Md (w.alloc (.cells #[.int .i64 room, .slice none 0 0, .bool false, .bool false, .int .i64 0, .int .i64 0] 44)) base w.heap.size none 0 (newD room) :=
  ⟨blk_new w _, Kd.R_nil _ _ _ _ _, hb⟩
end Go.Proofs.Ytihlacambdfmfaa.PK
/- disk: the law's do, whatever the kind. -/
namespace Go.Proofs.Ytihlacambdfmfaa.PK
open Go.RowKit Go.Proofs.YtihlacambdfmfaaW.PrintWords Go.Proofs.YtihlacambdfmfaaW.PrintLast Go.Proofs.YtihlacambdfmfaaW.PrintMore
open Go.Maps
open Go.Proofs.Ytihlacambdfmfaa.PR
theorem intC_lt {w : World} {ad : Addr} {xs : List Int} (h : Kd.C (Kd.int .i64) w (some ad) xs.length xs) (hn : 0 < xs.length) : ad.block < w.heap.size := by
  obtain ⟨ad2, e, hc⟩ := Kd.at_int h 0 (by omega) (by omega)
  cases e
  have h1 := World.block_lt_of_cell? w _ hc
  have hbl : (ad.add (0 : Int).toNat).block = ad.block := by unfold Addr.add; split <;> rfl
  rwa [hbl] at h1
def DoIs (kind : Int) (name tn : ByteArray) (data : List ByteArray) (n : Int) (keep : List Int) (d : DS) (s : ByteArray) (code : Int) (d' : DS) : Prop :=
  (kind = 0 ∧ s = ⟨#[]⟩ ∧ code = appendC d name data ∧ AppIs d name data d') ∨ (kind = 1 ∧ s = ⟨#[]⟩ ∧ (d', code) = syncD d (name :: data)) ∨ (kind = 2 ∧ s = ⟨#[]⟩ ∧ (d', code) = renameD d name tn) ∨ (kind = 3 ∧ s = ⟨#[]⟩ ∧ (d', code) = deleteD d name) ∨ (kind = 4 ∧ s = ⟨#[]⟩ ∧ (d', code) = cutD d name n) ∨ (kind = 5 ∧ (s, code) = readD d name ∧ d' = d) ∨ (kind = 6 ∧ s = ⟨#[]⟩ ∧ code = 0 ∧ d' = armD d n) ∨ (kind = 7 ∧ s = ⟨#[]⟩ ∧ code = 0 ∧ d' = crashD d keep) ∨ ((kind ≠ 0 ∧ kind ≠ 1 ∧ kind ≠ 2 ∧ kind ≠ 3 ∧ kind ≠ 4 ∧ kind ≠ 5 ∧ kind ≠ 6 ∧ kind ≠ 7) ∧ s = ⟨#[]⟩ ∧ code = putC d name (catS data) ∧ PutIs d name (catS data) d')
theorem fits_find {d : DS} {name : ByteArray} {fi size : Int} (h : FindIs d.files name fi) : fitsD d name size ((oldF d.files name).1.size : Nat) = if 1048576 < size ∨ (fi < 0 ∧ 100 ≤ d.files.length) then 5 else if freeD d < size - ((oldF d.files name).1.size : Int) then 6 else 0 := by
  unfold fitsD
  have e : (getF d.files name = none ∧ 100 ≤ d.files.length) ↔ (fi < 0 ∧ 100 ≤ d.files.length) := by
    rcases h with ⟨rfl, hg⟩ | ⟨k, hk, rfl, hg⟩
    · exact ⟨fun h => ⟨by omega, h.2⟩, fun h => ⟨hg, h.2⟩⟩
    · refine ⟨fun h => ?_, fun h => by omega⟩
      rw [hg] at h
      cases h.1
  by_cases h1 : 1048576 < size ∨ (fi < 0 ∧ 100 ≤ d.files.length)
  · rw [if_pos h1, if_pos (h1.imp id e.2)]
  · have h2 : ¬ (1048576 < size ∨ (getF d.files name = none ∧ 100 ≤ d.files.length)) := fun h3 => h1 (h3.imp id e.1)
    rw [if_neg h1, if_neg h2]
theorem find_has {d : DS} {name : ByteArray} {fi : Int} (h : FindIs d.files name fi) : (fi = -1 ∧ ((oldF d.files name).1.size : Int) = 0) ∨ ∃ (k : Nat) (hk : k < d.files.length), fi = (k : Int) ∧ ((oldF d.files name).1.size : Int) = (d.files[k].data.size : Int) := by
  rcases h.old with ⟨_, h2, _, rfl⟩ | ⟨k, hk, rfl, h2, _⟩
  · exact .inl ⟨rfl, by omega⟩
  · exact .inr ⟨k, hk, rfl, by rw [h2]⟩
theorem doIs_uses {kind : Int} {name tn : ByteArray} {data : List ByteArray} {n : Int} {keep : List Int} {d d' : DS} {s : ByteArray} {code : Int} (h : DoIs kind name tn data n keep d s code d') : d'.uses ≤ d.uses + 1 := by
  unfold DoIs at h
  have hu := useD_uses d
  rcases h with ⟨-, -, -, h⟩ | ⟨-, -, h⟩ | ⟨-, -, h⟩ | ⟨-, -, h⟩ | ⟨-, -, h⟩ | ⟨-, -, h⟩ | ⟨-, -, -, h⟩ | ⟨-, -, -, h⟩ | ⟨-, -, -, h⟩
  · by_cases h0 : appendC d name data = 0
    · obtain ⟨k, rfl⟩ := h.2 h0
      exact hu
    · rw [h.1 h0]
      exact hu
  · have := sync_uses d (name :: data)
    rw [← h] at this
    dsimp only at this
    omega
  · have := rename_uses d name tn
    rw [← h] at this
    dsimp only at this
    omega
  · have := delete_uses d name
    rw [← h] at this
    dsimp only at this
    omega
  · have := cut_uses d name n
    rw [← h] at this
    dsimp only at this
    omega
  · rw [h]
    omega
  · rw [h]
    show d.uses ≤ _
    omega
  · rw [h]
    show d.uses ≤ _
    omega
  · rw [put_uses h]
    omega
theorem do_run {w0 w : World} {g b : Nat} {d : DS} (h : Run w0 w g b d) (hu : d.uses < 1000000) (kind : Int) (name tn : ByteArray) (A3 : Option Addr) (c3 : Nat) (data : List ByteArray) (n : Int) (A5 : Option Addr) (c5 : Nat) (keep : List Int) (hC3 : Kd.C Kd.string w A3 data.length data) (hc3 : data.length ≤ c3) (hl3 : data.length ≤ 10) (hs3 : sumS data ≤ 1000000) (hA3 : ∀ ad, A3 = some ad → 0 < data.length → ¬ foot g b d ad.block) (hC5 : Kd.C (Kd.int .i64) w A5 keep.length keep) (hA5 : ∀ ad, A5 = some ad → 0 < keep.length → ¬ foot g b d ad.block) (hnm : name.size ≤ 100) (hn : n ≤ 9223372036854775807) :
    Calls Try.prog 19 #[.pointer (some ⟨g, 0, none⟩), .agg #[.int .i64 kind, .string name, .string tn, .slice A3 data.length c3, .int .i64 n, .slice A5 keep.length c5]] w fun e w' => ∃ s code d', e = .returned (.tuple #[.string s, .int .i64 code]) ∧ DoIs kind name tn data n keep d s code d' ∧ Run w0 w' g b d' ∧ Turn w g b d d' w' := by
  by_cases k0 : kind = 0
  · subst k0
    exact (do0_run h hu name tn A3 c3 data n A5 c5 keep hC3 hc3 hl3 hs3 hA3 hC5 hA5 hnm hn).mono fun e w' hq => by
      obtain ⟨d', rfl, hi, hr, ht⟩ := hq
      exact ⟨_, _, d', rfl, .inl ⟨rfl, rfl, rfl, hi⟩, hr, ht⟩
  · by_cases k1 : kind = 1
    · subst k1
      exact (do1_run h hu name tn A3 c3 data n A5 c5 keep hC3 hc3 hl3 hs3 hA3 hC5 hA5 hnm hn).mono fun e w' hq => by
        obtain ⟨rfl, hr, ht⟩ := hq
        exact ⟨_, _, _, rfl, .inr (.inl ⟨rfl, rfl, rfl⟩), hr, ht⟩
    · by_cases k2 : kind = 2
      · subst k2
        exact (do2_run h hu name tn A3 c3 data n A5 c5 keep hC3 hc3 hl3 hs3 hA3 hC5 hA5 hnm hn).mono fun e w' hq => by
          obtain ⟨rfl, hr, ht⟩ := hq
          exact ⟨_, _, _, rfl, .inr (.inr (.inl ⟨rfl, rfl, rfl⟩)), hr, ht⟩
      · by_cases k3 : kind = 3
        · subst k3
          exact (do3_run h hu name tn A3 c3 data n A5 c5 keep hC3 hc3 hl3 hs3 hA3 hC5 hA5 hnm hn).mono fun e w' hq => by
            obtain ⟨rfl, hr, ht⟩ := hq
            exact ⟨_, _, _, rfl, .inr (.inr (.inr (.inl ⟨rfl, rfl, rfl⟩))), hr, ht⟩
        · by_cases k4 : kind = 4
          · subst k4
            exact (do4_run h hu name tn A3 c3 data n A5 c5 keep hC3 hc3 hl3 hs3 hA3 hC5 hA5 hnm hn).mono fun e w' hq => by
              obtain ⟨rfl, hr, ht⟩ := hq
              exact ⟨_, _, _, rfl, .inr (.inr (.inr (.inr (.inl ⟨rfl, rfl, rfl⟩)))), hr, ht⟩
          · by_cases k5 : kind = 5
            · subst k5
              exact (do5_run h hu name tn A3 c3 data n A5 c5 keep hC3 hc3 hl3 hs3 hA3 hC5 hA5 hnm hn).mono fun e w' hq => by
                obtain ⟨rfl, hr, ht⟩ := hq
                exact ⟨_, _, d, rfl, .inr (.inr (.inr (.inr (.inr (.inl ⟨rfl, rfl, rfl⟩))))), hr, ht⟩
            · by_cases k6 : kind = 6
              · subst k6
                exact (do6_run h hu name tn A3 c3 data n A5 c5 keep hC3 hc3 hl3 hs3 hA3 hC5 hA5 hnm hn).mono fun e w' hq => by
                  obtain ⟨rfl, hr, ht⟩ := hq
                  exact ⟨_, _, _, rfl, .inr (.inr (.inr (.inr (.inr (.inr (.inl ⟨rfl, rfl, rfl, rfl⟩)))))), hr, ht⟩
              · by_cases k7 : kind = 7
                · subst k7
                  exact (do7_run h hu name tn A3 c3 data n A5 c5 keep hC3 hc3 hl3 hs3 hA3 hC5 hA5 hnm hn).mono fun e w' hq => by
                    obtain ⟨rfl, hr, ht⟩ := hq
                    exact ⟨_, _, _, rfl, .inr (.inr (.inr (.inr (.inr (.inr (.inr (.inl ⟨rfl, rfl, rfl, rfl⟩))))))), hr, ht⟩
                · exact (do8_run h hu kind name tn A3 c3 data n A5 c5 keep hC3 hc3 hl3 hs3 hA3 hC5 hA5 hnm hn k0 k1 k2 k3 k4 k5 k6 k7).mono fun e w' hq => by
                    obtain ⟨d', rfl, hi, hr, ht⟩ := hq
                    exact ⟨_, _, d', rfl, .inr (.inr (.inr (.inr (.inr (.inr (.inr (.inr (⟨⟨k0, k1, k2, k3, k4, k5, k6, k7⟩, rfl, rfl, hi⟩)))))))), hr, ht⟩
end Go.Proofs.Ytihlacambdfmfaa.PK
