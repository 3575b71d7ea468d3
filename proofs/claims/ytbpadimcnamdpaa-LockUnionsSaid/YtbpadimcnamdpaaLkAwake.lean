/- lock: the document's example. -/
import Derived.Test.YtbpadimcnamdpaaLkGrant
namespace Go.Proofs.Ytbpadimcnamdpaa.PK
open Go.RowKit Go.Proofs.YtbpadimcnamdpaaW.PrintWords Go.Proofs.YtbpadimcnamdpaaW.PrintLast Go.Proofs.YtbpadimcnamdpaaW.PrintMore
def nmA : ByteArray := ⟨#[97]⟩
def wA (b : Bool) : W := ⟨nmA, b⟩
def aA (id : Int) (b : Bool) : Ask := ⟨⟨[wA b]⟩, id, false⟩
def L1 : List Ask := [aA 1 false]
def L2 : List Ask := [aA 1 false, aA 2 true]
def L3 : List Ask := [aA 1 false, aA 2 true, aA 3 false]
theorem sortL_one (x : W) : sortL [x] = [x] := by
  unfold sortL Sort.insertionSort
  rw [Sort.insOuter, if_neg (by simp)]
theorem uniL_one (x : W) : uniL [x] = [x] := by simp [uniL, uniStep]
theorem bytesLess_self (l : List UInt8) : Op.bytesLess l l = false := by
  induction l with
  | nil => rfl
  | cons x r ih => simp [Op.bytesLess, ih]
theorem cmpS_self (a : ByteArray) : cmpS a a = 0 := by
  unfold cmpS
  rw [bytesLess_self, if_neg (by decide), if_pos rfl]
theorem clash_A (b c : Bool) : clashL [wA b] [wA c] = (b || c) := by
  rw [clashL_cons, show cmpS (wA b).f0 (wA c).f0 = 0 from cmpS_self nmA, if_neg (by decide), if_neg (by decide)]
  have h : clash1 (wA b) (wA c) = (b || c) := by
    unfold clash1
    rw [show decide ((wA b).f0.toList = (wA c).f0.toList) = true from decide_eq_true rfl]
    rfl
  rw [h, clashL_nil]
  cases b <;> cases c <;> rfl
theorem ask1 : askL [] 1 [wA false] = L1 ∧ askCode [] 1 = 0 := by
  have h : askCode [] 1 = 0 := rfl
  refine ⟨?_, h⟩
  unfold askL
  rw [h, if_pos rfl, sortL_one, uniL_one]
  rfl
theorem ask2 : askL L1 2 [wA true] = L2 ∧ askCode L1 2 = 0 := by
  have h : askCode L1 2 = 0 := rfl
  refine ⟨?_, h⟩
  unfold askL
  rw [h, if_pos rfl, sortL_one, uniL_one]
  rfl
theorem ask3 : askL L2 3 [wA false] = L3 ∧ askCode L2 3 = 0 := by
  have h : askCode L2 3 = 0 := rfl
  refine ⟨?_, h⟩
  unfold askL
  rw [h, if_pos rfl, sortL_one, uniL_one]
  rfl
theorem blocks_A (i k : Nat) (hi : i < 3) (hk : k < 3) : blocks L3 i k = (decide (k ≠ i) && decide (k < i) && ((i == 1) || (k == 1))) := by
  have key : ∀ b c : Bool, clashL [wA b] [wA c] = (b || c) := clash_A
  match i, k, hi, hk with
  | 0, 0, _, _ => rfl
  | 0, 1, _, _ => rfl
  | 0, 2, _, _ => rfl
  | 1, 0, _, _ => exact (congrArg _ (key true false)).trans rfl
  | 1, 1, _, _ => rfl
  | 1, 2, _, _ => rfl
  | 2, 0, _, _ => exact (congrArg _ (key false false)).trans rfl
  | 2, 1, _, _ => exact (congrArg _ (key false true)).trans rfl
  | 2, 2, _, _ => rfl
theorem ready_0 : readyT L3 0 = true := by
  rw [readyT_all L3 0 (fun k hk => by rw [blocks_A 0 k (by decide) hk, decide_eq_false (by omega : ¬ k < 0)]; simp)]
  rfl
theorem ready_1 : readyT L3 1 = false := readyT_no L3 1 0 (by decide) (by rw [blocks_A 1 0 (by decide) (by decide)]; rfl)
theorem ready_2 : readyT L3 2 = false := readyT_no L3 2 1 (by decide) (by rw [blocks_A 2 1 (by decide) (by decide)]; rfl)
theorem ids_ready3 : idsK L3 (readyT L3) L3.length = [1] := by
  show idsK L3 (readyT L3) 3 = [1]
  rw [idsK_no _ _ 2 ready_2, idsK_no _ _ 1 ready_1, idsK_yes _ _ 0 ready_0]
  rfl
theorem ids_wait3 : (idsK L3 (fun i => !held L3 i) L3.length).length = 3 := rfl
theorem grant_3 : grantL L3 [3] = (18, L3) := by
  unfold grantL
  rw [show findI L3 3 = 2 from rfl, if_neg (by decide), show (2 : Int).toNat = 2 from rfl, ready_2, if_pos rfl]
theorem grant_1 : (grantL L3 [1]).1 = 0 := by
  unfold grantL
  rw [show findI L3 1 = 0 from rfl, if_neg (by decide), show (0 : Int).toNat = 0 from rfl, ready_0, if_neg (by decide)]
  rfl
theorem C_want {W1 : World} {b t : Nat} (x : W) (hb : W1.heap[b]? = some (.cells #[.string x.f0, .bool x.f1] t (0, 0))) : Kd.C k31 W1 (some ⟨b, 0, none⟩) [x].length [x] := by
  refine ⟨rfl, by simp, fun _ => ⟨⟨b, 0, none⟩, rfl, fun j p hj => ?_⟩⟩
  have hj0 : j = 0 := by
    have := (List.getElem?_eq_some_iff.1 hj).1
    simpa using this
  subst hj0
  obtain rfl : x = p := by simpa using hj
  refine ⟨[.string x.f0, .bool x.f1], rfl, k31_mk W1 x, fun i u hu => ?_⟩
  have hi := (List.getElem?_eq_some_iff.1 hu).1
  have := blk_cell hb i
  show W1.cell? ((⟨b, 0, none⟩ : Addr).add (0 * 2 + i)) = _
  rw [add_plain, Nat.zero_mul, Nat.zero_add, this]
  simpa using hu
theorem C_int {W1 : World} {b t : Nat} (n : Int) (hb : W1.heap[b]? = some (.cells #[.int .i64 n] t (0, 0))) : Kd.C (Kd.int .i64) W1 (some ⟨b, 0, none⟩) [n].length [n] := by
  refine ⟨rfl, by simp, fun _ => ⟨⟨b, 0, none⟩, rfl, fun j p hj => ?_⟩⟩
  have hj0 : j = 0 := by
    have := (List.getElem?_eq_some_iff.1 hj).1
    simpa using this
  subst hj0
  obtain rfl : n = p := by simpa using hj
  refine ⟨[.int .i64 n], rfl, rfl, fun i u hu => ?_⟩
  have := blk_cell hb i
  show W1.cell? ((⟨b, 0, none⟩ : Addr).add (0 * 1 + i)) = _
  rw [add_plain, Nat.zero_mul, Nat.zero_add, this]
  simpa using hu
theorem below_kp {S : Nat → Prop} {w w1 w2 : World} (h : Below w.heap.size w w1) (k : Kp S w1 w2) (hS : ∀ k, S k → w.heap.size ≤ k) : Below w.heap.size w w2 :=
  h.trans ⟨k.os, k.tape, k.output, k.size, fun i hi => k.block i (Nat.lt_of_lt_of_le hi h.size) (fun hs => by have := hS i hs; omega)⟩
set_option maxHeartbeats 2000000 in
set_option maxRecDepth 100000 in
theorem awake_calls (w : World) : Calls Try.prog 7 #[] w fun e w' => e = .returned (.bool true) ∧ Below w.heap.size w w' := by
  go_enter Try.func7, Try.ntmps7
  go_wp2_with fail
  refine (New_calls w).mono ?_
  rintro e w1 ⟨rfl, hT, hb⟩
  have HT := Aside0.mk hT
  have HB := Aside0.mk hb
  clear hT hb
  go_wp2_with fail
  refine (ask_calls w.heap.size w.heap.size (fun k => w.heap.size ≤ k) [] 1 (some ⟨w1.heap.size, 0, none⟩) 1 [wA false] _ (HT.out.below (below_alloc (Below.refl _ _) _)) (C_want (wA false) (blk_new w1 _)) (Nat.le_refl _) (by simp) (by simp) (fun k hk => Nat.le_trans HB.out.size (Nat.le_trans (Nat.le_of_lt (alloc_lt' w1 _)) hk))).mono ?_
  rintro e w2 ⟨rfl, hT, hK⟩
  rw [ask1.1] at hT
  rw [ask1.2]
  replace HB := Aside0.mk (below_kp (below_alloc HB.out _) hK (fun _ h => h))
  replace HT := Aside0.mk hT
  clear hT hK
  go_wp2_with fail
  refine (ask_calls w.heap.size w.heap.size (fun k => w.heap.size ≤ k) L1 2 (some ⟨w2.heap.size, 0, none⟩) 1 [wA true] _ (HT.out.below (below_alloc (Below.refl _ _) _)) (C_want (wA true) (blk_new w2 _)) (Nat.le_refl _) (by simp) (by decide) (fun k hk => Nat.le_trans HB.out.size (Nat.le_trans (Nat.le_of_lt (alloc_lt' w2 _)) hk))).mono ?_
  rintro e w3 ⟨rfl, hT, hK⟩
  rw [ask2.1] at hT
  rw [ask2.2]
  replace HB := Aside0.mk (below_kp (below_alloc HB.out _) hK (fun _ h => h))
  replace HT := Aside0.mk hT
  clear hT hK
  go_wp2_with fail
  refine (ask_calls w.heap.size w.heap.size (fun k => w.heap.size ≤ k) L2 3 (some ⟨w3.heap.size, 0, none⟩) 1 [wA false] _ (HT.out.below (below_alloc (Below.refl _ _) _)) (C_want (wA false) (blk_new w3 _)) (Nat.le_refl _) (by simp) (by decide) (fun k hk => Nat.le_trans HB.out.size (Nat.le_trans (Nat.le_of_lt (alloc_lt' w3 _)) hk))).mono ?_
  rintro e w4 ⟨rfl, hT, hK⟩
  rw [ask3.1] at hT
  rw [ask3.2]
  replace HB := Aside0.mk (below_kp (below_alloc HB.out _) hK (fun _ h => h))
  replace HT := Aside0.mk hT
  clear hT hK
  go_wp2_with fail
  obtain ⟨A4, c4, hcell4, hC4⟩ := HT.out.cell
  refine (Ready_calls w.heap.size A4 c4 L3 w4 hcell4 hC4 (by decide)).mono ?_
  rintro e w5 ⟨v5, rfl, ho5, hb5⟩
  rw [ids_ready3] at ho5
  obtain ⟨A5, c5, rfl⟩ := Kd.R_slice ho5
  obtain ⟨ad5, e5, hat5⟩ := Kd.at_int (Kd.R_reads' ho5).2.2 0 (by omega) (by simp)
  cases e5
  clear hcell4 hC4
  replace HB := Aside0.mk (below_step HB.out hb5)
  replace HT := Aside0.mk (HT.out.below hb5)
  have HO5 := Aside0.mk ho5
  clear ho5 hb5
  have hat : w5.cell? ad5 = some (.int .i64 1) := by simpa [Addr.add, rd] using hat5
  clear hat5
  go_wp2_with fail
  obtain ⟨A6, c6, hcell6, hC6⟩ := HT.out.cell
  refine (Waiting_calls w.heap.size A6 c6 L3 w5 hcell6 hC6 (by decide)).mono ?_
  rintro e w6 ⟨v6, rfl, ho6, hb6⟩
  obtain ⟨A7, c7, rfl⟩ := Kd.R_slice ho6
  rw [ids_wait3]
  clear hcell6 hC6 ho6 hat HO5
  replace HB := Aside0.mk (below_step HB.out hb6)
  replace HT := Aside0.mk (HT.out.below hb6)
  clear hb6
  go_wp2_with fail
  refine (grant_calls w.heap.size w.heap.size (fun k => w.heap.size ≤ k ∧ k < w6.heap.size) L3 (some ⟨w6.heap.size, 0, none⟩) 1 [3] _ (HT.out.now.below (below_alloc (Below.refl _ _) _)) (C_int 3 (blk_new w6 _)) (fun ad he hs => by injection he with he; subst he; exact absurd hs.2 (Nat.lt_irrefl _)) (by decide)).mono ?_
  rintro e w7 ⟨rfl, hT, hK⟩
  rw [grant_3]
  rw [grant_3] at hT
  dsimp only at hT ⊢
  replace HB := Aside0.mk (below_kp (below_alloc HB.out _) hK (fun k h => by rcases h with h | h; exact h.1; exact Nat.le_trans HB.out.size (Nat.le_trans (Nat.le_of_lt (alloc_lt' w6 _)) h)))
  replace HT := Aside0.mk (hT.mono (S' := fun k => w.heap.size ≤ k) (fun k h => by rcases h with h | h; exact h.1; exact Nat.le_trans (Nat.le_of_lt (HT.out.lt)) (Nat.le_trans (Nat.le_of_lt (alloc_lt' w6 _)) h)))
  clear hT hK
  go_wp2_with fail
  refine (grant_calls w.heap.size w.heap.size (fun k => w.heap.size ≤ k ∧ k < w7.heap.size) L3 (some ⟨w7.heap.size, 0, none⟩) 1 [1] _ (HT.out.now.below (below_alloc (Below.refl _ _) _)) (C_int 1 (blk_new w7 _)) (fun ad he hs => by injection he with he; subst he; exact absurd hs.2 (Nat.lt_irrefl _)) (by decide)).mono ?_
  rintro e w8 ⟨rfl, hT, hK⟩
  rw [grant_1]
  replace HB := Aside0.mk (below_kp (below_alloc HB.out _) hK (fun k h => by rcases h with h | h; exact h.1; exact Nat.le_trans HB.out.size (Nat.le_trans (Nat.le_of_lt (alloc_lt' w7 _)) h)))
  clear hT hK HT
  go_wp2_with fail
  go_ret
  exact ⟨rfl, HB.out⟩
end Go.Proofs.Ytbpadimcnamdpaa.PK
