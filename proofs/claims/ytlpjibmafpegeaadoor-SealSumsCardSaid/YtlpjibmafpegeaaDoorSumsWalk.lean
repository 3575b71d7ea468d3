/- SealSums, walked: any texts' sum, added together or one by one, and their frame. -/
import Derived.Test.YtlpjibmafpegeaaDoorPureSealBack
import Derived.WalkKit
import Derived.LaidEqlPtr
namespace Go.Proofs.YtlpjibmafpegeaaDoor
open Go.RowKit Go.Proofs.YtlpjibmafpegeaaDoorW.PrintWords Go.Proofs.YtlpjibmafpegeaaDoorW.PrintLast Go.Proofs.YtlpjibmafpegeaaDoorW.PrintMore
namespace Sums
/-- The sum of the first i texts. -/
def T (l : List ByteArray) (i : Nat) : BitVec 64 := ~~~ Crc.texts (~~~ 0#64) (l.take i)
theorem T_zero (l : List ByteArray) : Crc.bv (T l 0) = 0 := by
  unfold T
  rw [List.take_zero, Crc.texts_nil]
  decide
theorem T_succ (l : List ByteArray) (i : Nat) (h : i < l.length) : ~~~ Crc.texts (~~~ (T l i)) [rdOf ByteArray.empty l (i : Int)] = T l (i + 1) := by
  unfold T
  rw [BitVec.not_not, List.take_succ_eq_append_getElem h, Crc.texts_append]
  simp [rdOf, List.getD, h]
theorem T_all (l : List ByteArray) (i : Nat) (h : l.length ≤ i) : T l i = Crc.sum l := by
  unfold T
  rw [List.take_of_length_le h]
  rfl
theorem sum_sumL (l : List ByteArray) : Crc.sum l = Crc.sumL (Crc.mkB (Crc.joined l)).data.toList := by
  unfold Crc.sum Crc.sumL
  rw [Crc.texts_joined]
  rfl
theorem cell_set {w : World} {g : Nat} {u v : Value} (h : w.cell? ⟨g, 0, none⟩ = some u) : (w.setCell ⟨g, 0, none⟩ v).cell? ⟨g, 0, none⟩ = some v := by
  unfold World.cell? at h ⊢
  unfold World.setCell
  simp only [Array.getElem?_modify, if_true]
  split at h
  · rename_i c e f hb
    rw [hb]
    have hc : c[0]? = some u := by simpa using h
    have hl : 0 < c.size := (Array.getElem?_eq_some_iff.1 hc).1
    simp [hl]
  · cases h
theorem frozen_set {w : World} {g : Nat} {v : Value} : (w.setCell ⟨g, 0, none⟩ v).frozen? ⟨g, 0, none⟩ = w.frozen? ⟨g, 0, none⟩ := by
  unfold World.frozen? World.setCell
  simp only [Array.getElem?_modify, if_true]
  cases w.heap[g]? with
  | none => rfl
  | some o => cases o <;> rfl
theorem size_set {w : World} {a : Addr} {v : Value} : (w.setCell a v).heap.size = w.heap.size := by
  unfold World.setCell
  exact Array.size_modify
theorem neq_same (a : Addr) (w : World) : (binOp .neq 26 (.pointer (some a)) (.pointer (some a))).run Tryd.prog w = .ok (.bool false) w := by
  obtain ⟨j, hj⟩ := Option.isSome_iff_exists.1 (show (Tryd.prog.info? 29).isSome = true by kernel_rfl)
  have h : ∀ d : Nat, (Op.equalIn (d + 1) 26 (.pointer (some a)) (.pointer (some a))).run Tryd.prog w = .ok true w := fun d => by
    simp [Op.equalIn, run_underlying Tryd.underlying26, sizeOf, typeInfo, hj, run_sameAddr_same]
  simp only [binOp]
  simp [Op.equal, Op.maxDepth, h 9999]
/-- Behind the loop: the sum stands in its block, nothing else has turned. -/
structure St (w w' : World) (z : Int) : Prop where
  cell : w'.cell? ⟨w.heap.size, 0, none⟩ = some (.int .u64 z)
  lt : w.heap.size < w'.heap.size
  below : Below w.heap.size w w'
theorem St.step {w w' w2 : World} {z : Int} (h : St w w' z) (hb : Below w'.heap.size w' w2) : St w w2 z :=
  ⟨(hb.cell (p := ⟨w.heap.size, 0, none⟩) h.lt).trans h.cell, Nat.lt_of_lt_of_le h.lt hb.size, below_step h.below hb⟩
set_option maxHeartbeats 4000000 in
set_option maxRecDepth 100000 in
theorem calls (A0 : Option Addr) (c0 : Nat) (l0 : List ByteArray) (w : World) (hr0 : Kd.C Kd.string w A0 l0.length l0) (hc0 : l0.length ≤ c0) (hT : SumW.Tab w) :
    Calls Tryd.prog 3 #[.slice A0 l0.length c0] w fun e w' => e = .returned (.bool true) ∧ Below w.heap.size w w' := by
  have hmax := Kd.C_max hr0
  obtain ⟨s, b, hj, hb⟩ := PA.join_at l0 hmax 50 (by omega)
  have HR := Aside0.mk hr0
  have HC := Aside0.mk hc0
  have HT := Aside0.mk hT
  clear hr0 hc0 hT
  go_enter Tryd.func3, Tryd.ntmps3
  go_wp2_with fail
  refine (PR.affluxlaw05_join.calls 50 A0 c0 l0 s b w HR.out HC.out hj).mono ?_
  rintro e w1 ⟨rfl, ⟨n1, rfl⟩⟩
  have HB1 := Aside0.mk (pw_below_drewN (Below.refl w.heap.size w) n1)
  have HT1 := Aside0.mk (SumW.Tab.step HT.out HB1.out)
  have HR1 := Aside0.mk (Kd.C_drewN HR.out n1)
  have hsz1 : (w.drewN n1).heap.size = w.heap.size := rfl
  generalize w.drewN n1 = w1 at *
  clear hj
  cases b with
  | false =>
    clear hb
    go_wp2_with fail
    refine (PA.affluxlaw05_awake.calls 30 true _ HT1.out PA.awake_30).mono ?_
    rintro e w2 ⟨rfl, hb2⟩
    have HB2 := Aside0.mk (below_step HB1.out hb2)
    clear hb2
    go_wp2_with fail
    go_ret
    exact ⟨rfl, HB2.out⟩
  | true =>
    have HJ := Aside0.mk (hb rfl)
    clear hb
    go_wp2_with fail
    have hcell0 : (w1.alloc (.cells #[.int .u64 0] 29)).cell? ⟨w.heap.size, 0, none⟩ = some (.int .u64 0) := by rw [← hsz1]; exact blk_cell (blk_new w1 _) 0
    have hfr0 : (w1.alloc (.cells #[.int .u64 0] 29)).frozen? ⟨w.heap.size, 0, none⟩ = false := by rw [← hsz1]; exact blk_frozen (blk_new w1 _) 0
    have HB2 : Aside0 (Below w.heap.size w (w1.alloc (.cells #[.int .u64 0] 29))) := ⟨below_alloc HB1.out _⟩
    have hlt2 : w.heap.size < (w1.alloc (.cells #[.int .u64 0] 29)).heap.size := by rw [← hsz1]; show w1.heap.size < (w1.heap.push _).size; rw [Array.size_push]; omega
    generalize w1.alloc (.cells #[.int .u64 0] 29) = w2 at hcell0 hfr0 HB2 hlt2
    clear HB1 HT1 HR1 hsz1
    go_loopg [6] (l0.length + 1) (fun kq v6 w' => ∃ (i : Nat) (z : Int), v6 = .int .i64 i ∧ Aside0 (i + kq = l0.length + 1) ∧ i ≤ l0.length ∧ w'.cell? ⟨w.heap.size, 0, none⟩ = some (.int .u64 z) ∧ Aside0 (z = Crc.bv (T l0 i)) ∧ w'.frozen? ⟨w.heap.size, 0, none⟩ = false ∧ w.heap.size < w'.heap.size ∧ Aside0 (Below w.heap.size w w'))
    case atStart => exact ⟨0, 0, rfl, ⟨by omega⟩, Nat.zero_le _, hcell0, ⟨(T_zero l0).symm⟩, hfr0, hlt2, HB2⟩
    case round =>
      obtain ⟨i, z, rfl, HK, hi, hcell, HZ, hfr, hlt, HB⟩ := hrel
      clear hcell0 hfr0 HB2 hlt2
      cases gk with
      | zero => exact absurd HK.out (by omega)
      | succ k1 =>
        by_cases hil : i < l0.length
        · obtain ⟨ad, e0, hat⟩ := Kd.at_string (Kd.C_below HR.out HB.out) (i : Int) (by omega) (by omega)
          cases e0
          simp only [Int.toNat_natCast] at hat
          have HS := Aside0.mk (T_succ l0 i hil)
          have hsl : (rdOf ByteArray.empty l0 (i : Int)).size ≤ 9223372036854775807 := by
            have := HJ.out.2.1 (rdOf ByteArray.empty l0 (i : Int)) (by simp [rdOf, List.getD, hil])
            omega
          generalize rdOf ByteArray.empty l0 (i : Int) = si at hat HS hsl
          go_wp2_with (first | ((with_reducible refine gate_dst (N := 31) rfl ?_); refine Kd.R_lit Kd.string _ 9 ?hg (N := 31) ?hd (xs := ([si] : List ByteArray)) (inner := [.string si]) (ok := fun _ => True) (okp := fun _ => True) ?hr ?hp (fun _ hk => hk) trivial (Below.refl _ _) (Nat.le_refl _) (by simp) ?_; (case hd => rfl); (case hg => rfl); (case hr => first | (go_simp; done) | (go_simp; rfl)); (case hp => exact (Reps.one (show Kd.M Kd.string _ _ _ si [.string si] from rfl) (Reps.none _ _))); intro v1 w5 ho hb hg_ hnew_; clear hg_ hnew_; obtain ⟨A1, c1, e1⟩ := Kd.R_slice ho; subst e1; have HL := Aside0.mk (Kd.R_reads' ho).2.2; clear ho; have hcell5 := (hb.cell (p := ⟨w.heap.size, 0, none⟩) hlt).trans hcell; have hfr5 := (hb.frozen (p := ⟨w.heap.size, 0, none⟩) hlt).trans hfr; have hlt5 := Nat.lt_of_lt_of_le hlt hb.size; have HB5 := Aside0.mk (below_step HB.out hb); clear hb))
          refine (SumW.add_some w.heap.size (T l0 i) A1 c1 [si] w5 (by rw [hcell5, HZ.out]) hfr5 HL.out (by simpa using hsl) (SumW.Tab.below HT.out HB5.out HT.out.lt) (Crc.bv (T l0 (i + 1))) ⟨by rw [HS.out]⟩).mono ?_
          rintro e w6 ⟨rfl, rfl⟩
          have hcell6 : (w5.setCell ⟨w.heap.size, 0, none⟩ (.int .u64 (Crc.bv (T l0 (i + 1))))).cell? ⟨w.heap.size, 0, none⟩ = some (.int .u64 (Crc.bv (T l0 (i + 1)))) := cell_set hcell5
          have hfr6 : (w5.setCell ⟨w.heap.size, 0, none⟩ (.int .u64 (Crc.bv (T l0 (i + 1))))).frozen? ⟨w.heap.size, 0, none⟩ = false := by rw [frozen_set]; exact hfr5
          have hlt6 : w.heap.size < (w5.setCell ⟨w.heap.size, 0, none⟩ (.int .u64 (Crc.bv (T l0 (i + 1))))).heap.size := by rw [size_set]; exact hlt5
          have HB6 : Aside0 (Below w.heap.size w (w5.setCell ⟨w.heap.size, 0, none⟩ (.int .u64 (Crc.bv (T l0 (i + 1)))))) := ⟨below_set HB5.out (Nat.le_refl _)⟩
          obtain ⟨z6, hz6⟩ : ∃ z6, z6 = Crc.bv (T l0 (i + 1)) := ⟨_, rfl⟩
          rw [← hz6] at hcell6 hfr6 hlt6 HB6 ⊢
          have HZ6 := Aside0.mk hz6
          clear hz6 hcell5 hfr5 hlt5 HB5 HL hcell hfr hlt HB
          generalize w5.setCell ⟨w.heap.size, 0, none⟩ (.int .u64 z6) = w6 at hcell6 hfr6 hlt6 HB6 ⊢
          have hne := neq_same ⟨w.heap.size, 0, none⟩ w6
          go_wp2_with fail
          go_roundg k1
          case measure => have := HK.out; omega
          case rel => exact ⟨i + 1, z6, rfl, ⟨by have := HK.out; omega⟩, by omega, hcell6, HZ6, hfr6, hlt6, HB6⟩
        · have HZ2 : Aside0 (z = Crc.bv (Crc.sum l0)) := ⟨by rw [HZ.out, T_all l0 i (by omega)]⟩
          have HST := Aside0.mk (St.mk hcell hlt HB.out)
          clear hcell hfr hlt HB HZ
          obtain ⟨F, hF⟩ : ∃ F, F = Crc.mkB (Crc.frame (Crc.joined l0)) := ⟨_, rfl⟩
          have HF := Aside0.mk hF
          clear hF
          have hjl : (Crc.joined l0).length ≤ 1500 := by have := HJ.out.2.2.2; rw [HJ.out.2.2.1, Crc.mkB_size] at this; exact this
          go_wp2_with fail
          refine (PA.seal_Frame.calls (l0.length + 10) A0 c0 l0 F true wr (Kd.C_below HR.out HST.out.below) HC.out (SumW.Tab.below HT.out HST.out.below HT.out.lt) (by rw [PA.frame_at l0 (by omega) (by have := HJ.out.1; omega) _ (Nat.le_refl _), HF.out])).mono ?_
          rintro e w3 ⟨rfl, hb3⟩
          have HST3 := Aside0.mk (HST.out.step hb3)
          clear hb3 HST
          go_wp2_with fail
          refine (seal_Of.calls A0 c0 l0 z w3 (Kd.C_below HR.out HST3.out.below) HC.out (SumW.Tab.below HT.out HST3.out.below HT.out.lt) (by unfold seal_Of.f; rw [if_pos (fun x hx => by have := HJ.out.2.1 x hx; omega), HZ2.out])).mono ?_
          rintro e w4 ⟨rfl, hb4⟩
          have HST4 := Aside0.mk (HST3.out.step hb4)
          clear hb4 HST3
          have hsum : PR.affluxref05_Sum.f (10 * s.size + 1) s = some z := by rw [PR.sum_list s (by have := HJ.out.2.2.2; omega), HZ2.out, sum_sumL, ← HJ.out.2.2.1]
          have HSUM := Aside0.mk hsum
          clear hsum
          go_wp2_with fail
          refine (PR.affluxref05_Sum.calls _ s z w4 HSUM.out).mono ?_
          rintro e w5 ⟨rfl, ⟨n5, rfl⟩⟩
          have HST5 := Aside0.mk (HST4.out.step (pw_below_drewN (Below.refl _ _) n5))
          clear HST4
          generalize w4.drewN n5 = w5 at HST5 ⊢
          go_wp2_with fail
          refine (SumW.value_some w.heap.size z w5 HST5.out.cell).mono ?_
          rintro e w6 ⟨rfl, rfl⟩
          go_wp2_with fail
          refine (PR.affluxref05_Sum.calls _ s z w6 HSUM.out).mono ?_
          rintro e w7 ⟨rfl, ⟨n7, rfl⟩⟩
          have HST7 := Aside0.mk (HST5.out.step (pw_below_drewN (Below.refl _ _) n7))
          clear HST5
          generalize w6.drewN n7 = w7 at HST7 ⊢
          go_wp2_with fail
          refine (SumW.add_nil _ w7).mono ?_
          rintro e w8 ⟨rfl, rfl⟩
          go_wp2_with fail
          refine (SumW.value_nil w8).mono ?_
          rintro e w9 ⟨rfl, rfl⟩
          go_wp2_with fail
          refine (affluxref05_Frame.calls s F w9 (by unfold affluxref05_Frame.f; rw [if_pos (by have := HJ.out.2.2.2; omega), HF.out, HJ.out.2.2.1, Crc.mkB_list])).mono ?_
          rintro e w10 ⟨rfl, hb10⟩
          have HST10 := Aside0.mk (HST7.out.step hb10)
          clear hb10 HST7
          go_wp2_with fail
          refine (PA.affluxlaw05_awake.calls 30 true w10 (SumW.Tab.below HT.out HST10.out.below HT.out.lt) PA.awake_30).mono ?_
          rintro e w11 ⟨rfl, hb11⟩
          have HST11 := Aside0.mk (HST10.out.step hb11)
          clear hb11 HST10
          go_wp2_with fail
          go_ret
          exact ⟨rfl, HST11.out.below⟩
end Sums
end Go.Proofs.YtlpjibmafpegeaaDoor
