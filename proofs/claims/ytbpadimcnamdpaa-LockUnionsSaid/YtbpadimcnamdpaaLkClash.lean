/- lock: do two lists of wants, rising by names, clash? -/
import Derived.Test.YtbpadimcnamdpaaLkFind
import Derived.StillTailTactics
namespace Go.Proofs.Ytbpadimcnamdpaa.PK
open Go.RowKit Go.Proofs.YtbpadimcnamdpaaW.PrintWords Go.Proofs.YtbpadimcnamdpaaW.PrintLast Go.Proofs.YtbpadimcnamdpaaW.PrintMore
abbrev W := S31
def clash1 (x y : W) : Bool := decide (x.f0.toList = y.f0.toList) && (x.f1 || y.f1)
theorem clash1_f (x y : W) : lock_Clash.f x.f0 x.f1 y.f0 y.f1 = some (clash1 x y) := by
  unfold lock_Clash.f clash1
  by_cases h : x.f0.toList = y.f0.toList
  · rw [if_pos h, decide_eq_true h]
    cases x.f1 <;> rfl
  · rw [if_neg h, decide_eq_false h]
    rfl
/-- Two lists that rise by names. -/
def clashL : List W → List W → Bool
  | [], _ => false
  | _ :: _, [] => false
  | x :: xs, y :: ys => if cmpS x.f0 y.f0 = -1 then clashL xs (y :: ys) else if cmpS x.f0 y.f0 = 1 then clashL (x :: xs) ys else if clash1 x y = true then true else clashL xs ys
termination_by a b => a.length + b.length
theorem clashL_nil (b : List W) : clashL [] b = false := by rw [clashL]
theorem clashL_nil2 (a : List W) : clashL a [] = false := by cases a <;> rw [clashL]
theorem clashL_cons (x y : W) (xs ys : List W) : clashL (x :: xs) (y :: ys) = if cmpS x.f0 y.f0 = -1 then clashL xs (y :: ys) else if cmpS x.f0 y.f0 = 1 then clashL (x :: xs) ys else if clash1 x y = true then true else clashL xs ys := by rw [clashL]
theorem rd31_at (l : List W) (i : Nat) (h : i < l.length) : rd_T31 l (i : Int) = l[i] := by simp [rd_T31, List.getD, h]
theorem drop31 (l : List W) (i : Nat) (h : i < l.length) : l.drop i = rd_T31 l (i : Int) :: l.drop (i + 1) := by rw [rd31_at l i h, List.drop_eq_getElem_cons h]
set_option maxHeartbeats 1000000 in
set_option maxRecDepth 100000 in
theorem clash_calls (A B : Option Addr) (c d : Nat) (a b : List W) (r : Bool) (w : World) (hA : Kd.C k31 w A a.length a) (hB : Kd.C k31 w B b.length b) (hr : Aside0 (r = clashL a b)) :
    Calls Try.prog 44 #[.agg #[.slice A a.length c], .agg #[.slice B b.length d]] w fun e w' => e = .returned (.bool r) ∧ Below w.heap.size w w' := by
  have HCA := Aside0.mk hA
  have HCB := Aside0.mk hB
  have hma := Kd.C_max hA
  have hmb := Kd.C_max hB
  clear hA hB
  go_enter Try.func44, Try.ntmps44
  go_wp2
  have hb2 := blk_new w (.cells #[.slice A a.length c] 59)
  have hb3 := blk_new (w.alloc (.cells #[.slice A a.length c] 59)) (.cells #[.slice B b.length d] 59)
  have hc2 : ((w.alloc (.cells #[.slice A a.length c] 59)).alloc (.cells #[.slice B b.length d] 59)).cell? ⟨w.heap.size, 0, none⟩ = some (.slice A a.length c) := blk_cell (blk_alloc hb2 _) 0
  have hs1 : (w.alloc (.cells #[.slice A a.length c] 59)).heap.size = w.heap.size + 1 := by show (w.heap.push _).size = _; rw [Array.size_push]
  have hc3 : ((w.alloc (.cells #[.slice A a.length c] 59)).alloc (.cells #[.slice B b.length d] 59)).cell? ⟨w.heap.size + 1, 0, none⟩ = some (.slice B b.length d) := by rw [← hs1]; exact blk_cell hb3 0
  have hs2 : w.heap.size + 1 < ((w.alloc (.cells #[.slice A a.length c] 59)).alloc (.cells #[.slice B b.length d] 59)).heap.size := by
    show _ < ((w.heap.push _).push _).size
    rw [Array.size_push, Array.size_push]; omega
  have HB0 : Aside0 (Below w.heap.size w ((w.alloc (.cells #[.slice A a.length c] 59)).alloc (.cells #[.slice B b.length d] 59))) := ⟨below_alloc (below_alloc (Below.refl _ _) _) _⟩
  clear hb2 hb3 hs1
  generalize (w.alloc (.cells #[.slice A a.length c] 59)).alloc (.cells #[.slice B b.length d] 59) = w0 at hc2 hc3 hs2 HB0 ⊢
  go_loopg [5, 6] (a.length + b.length + 1) (fun kq v5 v6 w' => ∃ i k : Nat, v5 = .int .i64 i ∧ v6 = .int .i64 k ∧ Aside0 (a.length + b.length + 1 ≤ i + k + kq) ∧ i ≤ a.length ∧ k ≤ b.length ∧ Aside0 (clashL (a.drop i) (b.drop k) = r) ∧ w'.cell? ⟨w.heap.size, 0, none⟩ = some (.slice A a.length c) ∧ w'.cell? ⟨w.heap.size + 1, 0, none⟩ = some (.slice B b.length d) ∧ w.heap.size + 1 < w'.heap.size ∧ Aside0 (Below w.heap.size w w'))
  case atStart => exact ⟨0, 0, rfl, rfl, ⟨by omega⟩, Nat.zero_le _, Nat.zero_le _, ⟨by rw [hr.out]; rfl⟩, hc2, hc3, hs2, HB0⟩
  case round =>
    clear hc2 hc3 hs2 HB0
    obtain ⟨i, k, rfl, rfl, HK, hi, hk, HR, hc2, hc3, hs2, HB⟩ := hrel
    cases gk with
    | zero => exact absurd HK.out (by omega)
    | succ k1 =>
      by_cases hil : i < a.length
      · by_cases hkl : k < b.length
        · obtain ⟨adA, eA, hxa0, hxa1⟩ := at_T31 (Kd.C_below HCA.out HB.out) (i : Int) (by omega) (by omega)
          obtain ⟨adB, eB, hxb0, hxb1⟩ := at_T31 (Kd.C_below HCB.out HB.out) (k : Int) (by omega) (by omega)
          cases eA
          cases eB
          have HDA := Aside0.mk (drop31 a i hil)
          have HDB := Aside0.mk (drop31 b k hkl)
          generalize rd_T31 a (i : Int) = x at hxa0 hxa1 HDA
          generalize rd_T31 b (k : Int) = y at hxb0 hxb1 HDB
          simp only [Int.toNat_natCast] at hxa0 hxa1 hxb0 hxb1
          obtain ⟨r0, hr0⟩ : ∃ r0, r0 = cmpS x.f0 y.f0 := ⟨_, rfl⟩
          have HR0 := Aside0.mk hr0
          clear hr0
          go_wp2_with fail
          go_quiet (first | (go_at_call 25; (refine (cmp_callsD _ _ r0 HR0 _).mono ?_); rintro e w' ⟨rfl, ⟨nd, rfl⟩⟩; (try first | exact ⟨rfl, _, World.drewN_drewN _ _ _⟩ | exact ⟨rfl, _, Eq.trans (World.drewN_drewN _ _ _) (congrArg (World.drewN _) (Nat.add_assoc _ _ _))⟩)))
          replace hc2 : (wr.drewN nq).cell? ⟨w.heap.size, 0, none⟩ = some (.slice (some adA) a.length c) := hc2
          replace hc3 : (wr.drewN nq).cell? ⟨w.heap.size + 1, 0, none⟩ = some (.slice (some adB) b.length d) := hc3
          replace hs2 : w.heap.size + 1 < (wr.drewN nq).heap.size := hs2
          replace hxa0 : (wr.drewN nq).cell? (adA.add (i * 2)) = some (.string x.f0) := hxa0
          replace hxa1 : (wr.drewN nq).cell? ⟨(adA.add (i * 2)).block, (adA.add (i * 2)).off + 1, none⟩ = some (.bool x.f1) := hxa1
          replace hxb0 : (wr.drewN nq).cell? (adB.add (k * 2)) = some (.string y.f0) := hxb0
          replace hxb1 : (wr.drewN nq).cell? ⟨(adB.add (k * 2)).block, (adB.add (k * 2)).off + 1, none⟩ = some (.bool y.f1) := hxb1
          replace HB : Aside0 (Below w.heap.size w (wr.drewN nq)) := ⟨pw_below_drewN HB.out nq⟩
          generalize wr.drewN nq = wd at hc2 hc3 hs2 hxa0 hxa1 hxb0 hxb1 HB ⊢
          have HC := Aside0.mk (clashL_cons x y (a.drop (i + 1)) (b.drop (k + 1)))
          rw [HDA.out, HDB.out] at HR
          rw [HC.out, ← HR0.out] at HR
          have hHR := HR.out
          clear HR
          by_cases h1 : r0 = -1
          · have hR : clashL (a.drop (i + 1)) (y :: b.drop (k + 1)) = r := by rw [if_pos h1] at hHR; exact hHR
            rw [← HDB.out] at hR
            have HR2 := Aside0.mk hR
            clear hR hHR HC HDA HDB
            subst h1
            go_wp2
            go_roundg k1
            case measure => have := HK.out; omega
            case rel => exact ⟨i + 1, k, by go_num, rfl, ⟨by have := HK.out; omega⟩, by omega, by omega, HR2, hc2, hc3, hs2, HB⟩
          · by_cases h2 : r0 = 1
            · have hR : clashL (x :: a.drop (i + 1)) (b.drop (k + 1)) = r := by rw [if_neg h1, if_pos h2] at hHR; exact hHR
              rw [← HDA.out] at hR
              have HR2 := Aside0.mk hR
              clear hR hHR HC HDA HDB
              subst h2
              clear h1
              go_wp2
              go_roundg k1
              case measure => have := HK.out; omega
              case rel => exact ⟨i, k + 1, rfl, by go_num, ⟨by have := HK.out; omega⟩, by omega, by omega, HR2, hc2, hc3, hs2, HB⟩
            · have HR2 : Aside0 ((if clash1 x y = true then true else clashL (a.drop (i + 1)) (b.drop (k + 1))) = r) := ⟨by rw [if_neg h1, if_neg h2] at hHR; exact hHR⟩
              clear hHR HC HDA HDB
              have e1 : (r0 == -1) = false := beq_eq_false_iff_ne.2 h1
              have e2 : (r0 == 1) = false := beq_eq_false_iff_ne.2 h2
              clear h1 h2
              have mc2 : (World.mk wd.heap wd.tape (wd.drawn + 1) wd.os wd.output).cell? ⟨w.heap.size, 0, none⟩ = some (.slice (some adA) a.length c) := hc2
              have mc3 : (World.mk wd.heap wd.tape (wd.drawn + 1) wd.os wd.output).cell? ⟨w.heap.size + 1, 0, none⟩ = some (.slice (some adB) b.length d) := hc3
              have ma0 : (World.mk wd.heap wd.tape (wd.drawn + 1) wd.os wd.output).cell? (adA.add (i * 2)) = some (.string x.f0) := hxa0
              have ma1 : (World.mk wd.heap wd.tape (wd.drawn + 1) wd.os wd.output).cell? ⟨(adA.add (i * 2)).block, (adA.add (i * 2)).off + 1, none⟩ = some (.bool x.f1) := hxa1
              have mb0 : (World.mk wd.heap wd.tape (wd.drawn + 1) wd.os wd.output).cell? (adB.add (k * 2)) = some (.string y.f0) := hxb0
              have mb1 : (World.mk wd.heap wd.tape (wd.drawn + 1) wd.os wd.output).cell? ⟨(adB.add (k * 2)).block, (adB.add (k * 2)).off + 1, none⟩ = some (.bool y.f1) := hxb1
              go_wp2
              go_still_tail 10, (by kernel_rfl)
              change wpList _ _ _ _ _ wd.drew
              clear mc2 mc3 ma0 ma1 mb0 mb1
              replace hc2 : wd.drew.cell? ⟨w.heap.size, 0, none⟩ = some (.slice (some adA) a.length c) := hc2
              replace hc3 : wd.drew.cell? ⟨w.heap.size + 1, 0, none⟩ = some (.slice (some adB) b.length d) := hc3
              replace hs2 : w.heap.size + 1 < wd.drew.heap.size := hs2
              replace HB : Aside0 (Below w.heap.size w wd.drew) := ⟨below_drew HB.out⟩
              clear hxa0 hxa1 hxb0 hxb1
              generalize wd.drew = we at hc2 hc3 hs2 HB ⊢
              go_wp2_with fail
              refine (lock_Clash.calls _ _ _ _ (clash1 x y) _ (clash1_f x y)).mono ?_
              rintro e w5 ⟨rfl, hb5⟩
              have HB5 := Aside0.mk (below_step HB.out hb5)
              replace hc2 := (hb5.cell (p := ⟨w.heap.size, 0, none⟩) (Nat.lt_of_succ_lt hs2)).trans hc2
              replace hc3 := (hb5.cell (p := ⟨w.heap.size + 1, 0, none⟩) hs2).trans hc3
              replace hs2 := Nat.lt_of_lt_of_le hs2 hb5.size
              clear hb5 HB
              cases hcl : clash1 x y with
              | true =>
                have HR3 : Aside0 (r = true) := ⟨by rw [← HR2.out, hcl]; rfl⟩
                clear HR2
                go_wp2
                go_ret
                exact ⟨by rw [HR3.out]; rfl, HB5.out⟩
              | false =>
                have HR3 : Aside0 (clashL (a.drop (i + 1)) (b.drop (k + 1)) = r) := ⟨by rw [← HR2.out, hcl]; rfl⟩
                clear HR2
                go_wp2
                go_roundg k1
                case measure => have := HK.out; omega
                case rel => exact ⟨i + 1, k + 1, by go_num, by go_num, ⟨by have := HK.out; omega⟩, by omega, by omega, HR3, hc2, hc3, hs2, HB5⟩
        · have HR3 : Aside0 (r = false) := ⟨by rw [← HR.out, List.drop_eq_nil_of_le (by omega : b.length ≤ k), clashL_nil2]⟩
          go_wp2
          go_ret
          exact ⟨by rw [HR3.out]; rfl, HB.out⟩
      · have HR3 : Aside0 (r = false) := ⟨by rw [← HR.out, List.drop_eq_nil_of_le (by omega : a.length ≤ i), clashL_nil]⟩
        go_wp2
        go_ret
        exact ⟨by rw [HR3.out]; rfl, HB.out⟩
end Go.Proofs.Ytbpadimcnamdpaa.PK
