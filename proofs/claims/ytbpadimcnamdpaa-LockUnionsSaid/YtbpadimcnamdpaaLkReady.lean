/- lock: is the ask at a place ready? -/
import Derived.Test.YtbpadimcnamdpaaLkClash
namespace Go.Proofs.Ytbpadimcnamdpaa.PK
open Go.RowKit Go.Proofs.YtbpadimcnamdpaaW.PrintWords Go.Proofs.YtbpadimcnamdpaaW.PrintLast Go.Proofs.YtbpadimcnamdpaaW.PrintMore
abbrev Ask := S61
def blocks (l : List Ask) (i k : Nat) : Bool := decide (k ≠ i) && ((rd_T61 l (k : Int)).f2 || decide (k < i)) && clashL (rd_T61 l (i : Int)).f0.f0 (rd_T61 l (k : Int)).f0.f0
def readyT (l : List Ask) (i : Nat) : Bool := ((List.range l.length).all fun k => !blocks l i k) && !(rd_T61 l (i : Int)).f2
theorem readyT_no (l : List Ask) (i k : Nat) (hk : k < l.length) (h : blocks l i k = true) : readyT l i = false := by
  unfold readyT
  have : ((List.range l.length).all fun k => !blocks l i k) = false := by
    rw [List.all_eq_false]
    exact ⟨k, by simpa using hk, by simp [h]⟩
  rw [this]; rfl
theorem readyT_all (l : List Ask) (i : Nat) (h : ∀ k, k < l.length → blocks l i k = false) : readyT l i = !(rd_T61 l (i : Int)).f2 := by
  unfold readyT
  have : ((List.range l.length).all fun k => !blocks l i k) = true := by
    rw [List.all_eq_true]
    intro k hk
    rw [h k (by simpa using hk)]; rfl
  rw [this]; rfl
set_option maxHeartbeats 1000000 in
set_option maxRecDepth 100000 in
theorem ready_calls (g : Nat) (i : Nat) (A : Option Addr) (c : Nat) (l : List Ask) (r : Bool) (w : World) (hg : w.cell? ⟨g, 0, none⟩ = some (.slice A l.length c)) (hC : Kd.C k61 w A l.length l) (hi : i < l.length) (hr : Aside0 (r = readyT l i)) :
    Calls Try.prog 35 #[.pointer (some ⟨g, 0, none⟩), .int .i64 i] w fun e w' => e = .returned (.bool r) ∧ Below w.heap.size w w' := by
  have HC := Aside0.mk hC
  have hmax := Kd.C_max hC
  clear hC
  have hlt : g < w.heap.size := by
    unfold World.cell? at hg
    by_cases h : g < w.heap.size
    · exact h
    · rw [Array.getElem?_eq_none (by simpa using h)] at hg; simp at hg
  obtain ⟨ad, A1, c1, e0, hx0, hx1, hx2, hl1, hi1⟩ := at_T61 HC.out (i : Int) (by omega) (by omega)
  cases e0
  have HI := Aside0.mk hi1
  clear hl1 hi1
  simp only [Int.toNat_natCast] at hx0 hx1 hx2
  obtain ⟨x, hx⟩ : ∃ x, x = rd_T61 l (i : Int) := ⟨_, rfl⟩
  rw [← hx] at hx0 hx1 hx2 HI
  have HX := Aside0.mk hx
  clear hx
  go_enter Try.func35, Try.ntmps35
  go_wp2
  have hblk := blk_new w (.cells #[.slice A1 x.f0.f0.length c1, .int .i64 x.f1, .bool x.f2] 61)
  have HB0 : Aside0 (Below w.heap.size w (w.alloc (.cells #[.slice A1 x.f0.f0.length c1, .int .i64 x.f1, .bool x.f2] 61))) := ⟨below_alloc (Below.refl _ _) _⟩
  have hs0 : w.heap.size < (w.alloc (.cells #[.slice A1 x.f0.f0.length c1, .int .i64 x.f1, .bool x.f2] 61)).heap.size := by
    show _ < (w.heap.push _).size
    rw [Array.size_push]; omega
  have HBK0 := Aside0.mk hblk
  clear hblk hx0 hx1 hx2 hg hlt
  generalize w.alloc (.cells #[.slice A1 x.f0.f0.length c1, .int .i64 x.f1, .bool x.f2] 61) = w0 at HBK0 hs0 HB0 ⊢
  go_loopg [20] (l.length + 1) (fun kq v20 w' => ∃ k : Nat, v20 = .int .i64 k ∧ Aside0 (k + kq = l.length + 1) ∧ k ≤ l.length ∧ Aside0 (∀ j, j < k → blocks l i j = false) ∧ Aside0 (w'.heap[w.heap.size]? = some (.cells #[.slice A1 x.f0.f0.length c1, .int .i64 x.f1, .bool x.f2] 61 (0, 0))) ∧ w.heap.size < w'.heap.size ∧ Aside0 (Below w.heap.size w w'))
  case atStart => exact ⟨0, rfl, ⟨by omega⟩, Nat.zero_le _, ⟨fun j h => absurd h (Nat.not_lt_zero _)⟩, HBK0, hs0, HB0⟩
  case round =>
    clear HBK0 hs0 HB0
    obtain ⟨k, rfl, HK, hk, HJ, HBK, hs, HB⟩ := hrel
    have hy0 : wr.cell? ⟨w.heap.size, 0, none⟩ = some (.slice A1 x.f0.f0.length c1) := blk_cell HBK.out 0
    have hy1 : wr.cell? ⟨w.heap.size, 1, none⟩ = some (.int .i64 x.f1) := blk_cell HBK.out 1
    have hy2 : wr.cell? ⟨w.heap.size, 2, none⟩ = some (.bool x.f2) := blk_cell HBK.out 2
    cases gk with
    | zero => exact absurd HK.out (by omega)
    | succ k1 =>
      by_cases hkl : k < l.length
      · obtain ⟨ad2, A2, c2, e0, hz0, hz1, hz2, hl2, hi2⟩ := at_T61 (Kd.C_below HC.out HB.out) (k : Int) (by omega) (by omega)
        cases e0
        have HI2 := Aside0.mk hi2
        clear hl2 hi2
        simp only [Int.toNat_natCast] at hz0 hz1 hz2
        obtain ⟨y, hy⟩ : ∃ y, y = rd_T61 l (k : Int) := ⟨_, rfl⟩
        rw [← hy] at hz0 hz1 hz2 HI2
        have HY := Aside0.mk hy
        clear hy
        by_cases hcall : k ≠ i ∧ (y.f2 = true ∨ k < i)
        · have hki : ¬ (k : Int) = (i : Int) := fun e => hcall.1 (by omega)
          have hki2 : ((k : Int) != (i : Int)) = true := bne_iff_ne.2 hki
          obtain ⟨q, hq⟩ : ∃ q, q = clashL x.f0.f0 y.f0.f0 := ⟨_, rfl⟩
          have HQ := Aside0.mk hq
          have hor := hcall.2
          have HBL : Aside0 (blocks l i k = q) := ⟨by
            unfold blocks
            rw [← HY.out, ← HX.out, decide_eq_true hcall.1, HQ.out]
            rcases hor with h | h
            · rw [h]; rfl
            · rw [decide_eq_true h, Bool.or_true]; rfl⟩
          clear hq hcall
          cases hyf : y.f2 with
          | true =>
            rw [hyf] at hz2
            clear hor
            go_wp2_with fail
            refine (clash_calls A1 A2 c1 c2 x.f0.f0 y.f0.f0 q _ (Kd.C_below HI.out (below_alloc HB.out _)) (Kd.C_alloc HI2.out _) HQ).mono ?_
            rintro e w5 ⟨rfl, hb5⟩
            have HB5 := Aside0.mk (below_step (below_alloc HB.out _) hb5)
            have HBK5 := Aside0.mk ((hb5.block w.heap.size (by show _ < (wr.heap.push _).size; rw [Array.size_push]; omega)).trans (blk_alloc HBK.out _))
            have hs5 : w.heap.size < w5.heap.size := Nat.lt_of_lt_of_le (by show _ < (wr.heap.push _).size; rw [Array.size_push]; omega) hb5.size
            clear hb5 HBK HB hs hy0 hy1 hy2 hz0 hz1 hz2 HI2
            cases hqq : q with
            | true =>
              have HR : Aside0 (r = false) := ⟨by rw [hr.out]; exact readyT_no l i k hkl (by rw [HBL.out, hqq])⟩
              clear HBL
              go_wp2
              go_ret
              exact ⟨by rw [HR.out]; rfl, HB5.out⟩
            | false =>
              have HN : Aside0 (∀ j, j < k + 1 → blocks l i j = false) := ⟨fun j hj => by
                by_cases e : j = k
                · subst e; rw [HBL.out, hqq]
                · exact HJ.out j (by omega)⟩
              clear HBL
              go_wp2
              go_roundg k1
              case measure => have := HK.out; omega
              case rel => exact ⟨k + 1, by go_num, ⟨by have := HK.out; omega⟩, by omega, HN, HBK5, hs5, HB5⟩
          | false =>
            rw [hyf] at hz2
            have hki3 : (k : Int) < (i : Int) := by
              rcases hor with h | h
              · rw [hyf] at h; cases h
              · omega
            clear hor
            go_wp2_with fail
            refine (clash_calls A1 A2 c1 c2 x.f0.f0 y.f0.f0 q _ (Kd.C_below HI.out (below_alloc HB.out _)) (Kd.C_alloc HI2.out _) HQ).mono ?_
            rintro e w5 ⟨rfl, hb5⟩
            have HB5 := Aside0.mk (below_step (below_alloc HB.out _) hb5)
            have HBK5 := Aside0.mk ((hb5.block w.heap.size (by show _ < (wr.heap.push _).size; rw [Array.size_push]; omega)).trans (blk_alloc HBK.out _))
            have hs5 : w.heap.size < w5.heap.size := Nat.lt_of_lt_of_le (by show _ < (wr.heap.push _).size; rw [Array.size_push]; omega) hb5.size
            clear hb5 HBK HB hs hy0 hy1 hy2 hz0 hz1 hz2 HI2
            cases hqq : q with
            | true =>
              have HR : Aside0 (r = false) := ⟨by rw [hr.out]; exact readyT_no l i k hkl (by rw [HBL.out, hqq])⟩
              clear HBL
              go_wp2
              go_ret
              exact ⟨by rw [HR.out]; rfl, HB5.out⟩
            | false =>
              have HN : Aside0 (∀ j, j < k + 1 → blocks l i j = false) := ⟨fun j hj => by
                by_cases e : j = k
                · subst e; rw [HBL.out, hqq]
                · exact HJ.out j (by omega)⟩
              clear HBL
              go_wp2
              go_roundg k1
              case measure => have := HK.out; omega
              case rel => exact ⟨k + 1, by go_num, ⟨by have := HK.out; omega⟩, by omega, HN, HBK5, hs5, HB5⟩
        · have HN : Aside0 (∀ j, j < k + 1 → blocks l i j = false) := ⟨fun j hj => by
            by_cases e : j = k
            · subst e
              unfold blocks
              rw [← HY.out]
              by_cases e2 : j = i
              · rw [decide_eq_false (by simpa using e2)]; rfl
              · have h2 : ¬ (y.f2 = true ∨ j < i) := fun h => hcall ⟨e2, h⟩
                have h3 : y.f2 = false := by cases h : y.f2 with | false => rfl | true => exact absurd (.inl h) h2
                rw [h3, decide_eq_false (fun h => h2 (.inr h))]
                simp
            · exact HJ.out j (by omega)⟩
          by_cases hki : k = i
          · subst hki
            have hki2 : ((k : Int) != (k : Int)) = false := by simp
            clear hcall
            go_wp2
            go_roundg k1
            case measure => have := HK.out; omega
            case rel => exact ⟨k + 1, by go_num, ⟨by have := HK.out; omega⟩, by omega, HN, ⟨blk_alloc HBK.out _⟩, by show _ < (wr.heap.push _).size; rw [Array.size_push]; omega, ⟨below_alloc HB.out _⟩⟩
          · have hki2 : ((k : Int) != (i : Int)) = true := bne_iff_ne.2 (fun e => hki (by omega))
            have h2 : ¬ (y.f2 = true ∨ k < i) := fun h => hcall ⟨hki, h⟩
            have h3 : y.f2 = false := by cases h : y.f2 with | false => rfl | true => exact absurd (.inl h) h2
            have h4 : ¬ (k : Int) < (i : Int) := fun h => h2 (.inr (by omega))
            rw [h3] at hz2
            clear hcall h2
            go_wp2
            go_roundg k1
            case measure => have := HK.out; omega
            case rel => exact ⟨k + 1, by go_num, ⟨by have := HK.out; omega⟩, by omega, HN, ⟨blk_alloc HBK.out _⟩, by show _ < (wr.heap.push _).size; rw [Array.size_push]; omega, ⟨below_alloc HB.out _⟩⟩
      · have HR : Aside0 (r = !x.f2) := ⟨by rw [hr.out, HX.out]; exact readyT_all l i (fun j hj => HJ.out j (by omega))⟩
        go_wp2
        go_ret
        exact ⟨by rw [HR.out]; rfl, HB.out⟩
end Go.Proofs.Ytbpadimcnamdpaa.PK
