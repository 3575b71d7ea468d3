/- lock: who is ready, who waits. -/
import Derived.Test.YtbpadimcnamdpaaLkIds
namespace Go.Proofs.Ytbpadimcnamdpaa.PK
open Go.RowKit Go.Proofs.YtbpadimcnamdpaaW.PrintWords Go.Proofs.YtbpadimcnamdpaaW.PrintLast Go.Proofs.YtbpadimcnamdpaaW.PrintMore
theorem cell_lt {w : World} {g j : Nat} {v : Value} (hg : w.cell? ⟨g, j, none⟩ = some v) : g < w.heap.size := by
  unfold World.cell? at hg
  by_cases h : g < w.heap.size
  · exact h
  · rw [Array.getElem?_eq_none (by simpa using h)] at hg; simp at hg
theorem alloc_lt (w : World) (o : Obj) {g : Nat} (h : g < w.heap.size) : g < (w.alloc o).heap.size := by
  show g < (w.heap.push _).size
  rw [Array.size_push]; omega
theorem alloc_lt' (w : World) (o : Obj) : w.heap.size < (w.alloc o).heap.size := by
  show w.heap.size < (w.heap.push _).size
  rw [Array.size_push]; omega
set_option maxRecDepth 100000 in
theorem ready1_calls (gb g : Nat) (i : Nat) (A : Option Addr) (c : Nat) (l : List Ask) (r : Bool) (w : World) (hb : w.cell? ⟨gb, 0, none⟩ = some (.pointer (some ⟨g, 0, none⟩))) (hg : w.cell? ⟨g, 0, none⟩ = some (.slice A l.length c)) (hC : Kd.C k61 w A l.length l) (hi : i < l.length) (hr : Aside0 (r = readyT l i)) :
    Calls Try.prog 34 #[.int .i64 i, .pointer (some ⟨gb, 0, none⟩)] w fun e w' => e = .returned (.bool r) ∧ Below w.heap.size w w' := by
  have HC := Aside0.mk hC
  clear hC
  go_enter Try.func34, Try.ntmps34
  go_wp2_with fail
  refine (ready_calls g i A c l r w hg HC.out hi hr).mono ?_
  rintro e w1 ⟨rfl, hb1⟩
  have HB1 := Aside0.mk hb1
  clear hb1
  go_wp2_with fail
  go_ret
  exact ⟨rfl, HB1.out⟩
set_option maxRecDepth 100000 in
theorem waiting1_calls (gb g : Nat) (i : Nat) (A : Option Addr) (c : Nat) (l : List Ask) (w : World) (hb : w.cell? ⟨gb, 0, none⟩ = some (.pointer (some ⟨g, 0, none⟩))) (hg : w.cell? ⟨g, 0, none⟩ = some (.slice A l.length c)) (hC : Kd.C k61 w A l.length l) (hi : i < l.length) :
    Calls Try.prog 33 #[.int .i64 i, .pointer (some ⟨gb, 0, none⟩)] w fun e w' => e = .returned (.bool (!(rd_T61 l (i : Int)).f2)) ∧ Below w.heap.size w w' := by
  have hmax := Kd.C_max hC
  obtain ⟨ad, A1, c1, e0, hx0, hx1, hx2, hl1, hi1⟩ := at_T61 hC (i : Int) (by omega) (by omega)
  cases e0
  clear hl1 hi1 hC
  simp only [Int.toNat_natCast] at hx0 hx1 hx2
  generalize rd_T61 l (i : Int) = x at hx0 hx1 hx2
  go_enter Try.func33, Try.ntmps33
  go_wp2
  go_ret
  exact ⟨rfl, Below.refl _ _⟩
set_option maxRecDepth 100000 in
theorem holding1_calls (gb g : Nat) (i : Nat) (A : Option Addr) (c : Nat) (l : List Ask) (w : World) (hb : w.cell? ⟨gb, 0, none⟩ = some (.pointer (some ⟨g, 0, none⟩))) (hg : w.cell? ⟨g, 0, none⟩ = some (.slice A l.length c)) (hC : Kd.C k61 w A l.length l) (hi : i < l.length) :
    Calls Try.prog 29 #[.int .i64 i, .pointer (some ⟨gb, 0, none⟩)] w fun e w' => e = .returned (.bool (rd_T61 l (i : Int)).f2) ∧ Below w.heap.size w w' := by
  have hmax := Kd.C_max hC
  obtain ⟨ad, A1, c1, e0, hx0, hx1, hx2, hl1, hi1⟩ := at_T61 hC (i : Int) (by omega) (by omega)
  cases e0
  clear hl1 hi1 hC
  simp only [Int.toNat_natCast] at hx0 hx1 hx2
  generalize rd_T61 l (i : Int) = x at hx0 hx1 hx2
  go_enter Try.func29, Try.ntmps29
  go_wp2
  go_ret
  exact ⟨rfl, Below.refl _ _⟩
def held (l : List Ask) (i : Nat) : Bool := (rd_T61 l (i : Int)).f2
set_option maxRecDepth 100000 in
theorem Ready_calls (g : Nat) (A : Option Addr) (c : Nat) (l : List Ask) (w : World) (hg : w.cell? ⟨g, 0, none⟩ = some (.slice A l.length c)) (hC : Kd.C k61 w A l.length l) (hsm : l.length ≤ 1099511627776) :
    Calls Try.prog 18 #[.pointer (some ⟨g, 0, none⟩)] w fun e w' => ∃ v, e = .returned v ∧ Kd.R (Kd.int .i64) 3 w' w.heap.size (fun _ => True) v (idsK l (readyT l) l.length) ∧ Below w.heap.size w w' := by
  have HC := Aside0.mk hC
  clear hC
  have hlt := cell_lt hg
  go_enter Try.func18, Try.ntmps18
  go_wp2_with fail
  refine (ids_ready w.heap.size g A c l (readyT l) _ (by rw [(below_alloc (Below.refl w.heap.size w) _).cell (p := ⟨g, 0, none⟩) hlt]; exact hg) (Kd.C_alloc HC.out _) hsm ?_).mono ?_
  · intro i w1 hi hb1
    have hb2 := below_alloc (Below.refl w.heap.size w) (.cells #[.pointer (some ⟨g, 0, none⟩)] 35)
    refine ready1_calls w.heap.size g i A c l _ w1 ?_ ?_ (Kd.C_below (Kd.C_alloc HC.out _) hb1) hi ⟨rfl⟩
    · rw [hb1.cell (p := ⟨w.heap.size, 0, none⟩) (alloc_lt' _ _)]
      exact blk_cell (blk_new w _) 0
    · rw [hb1.cell (p := ⟨g, 0, none⟩) (alloc_lt _ _ hlt), hb2.cell (p := ⟨g, 0, none⟩) hlt]
      exact hg
  · rintro e w1 ⟨v, rfl, ho1, hb1⟩
    have HO1 := Aside0.mk (Kd.R_lower ho1 (Nat.le_of_lt (alloc_lt' w _)))
    have HB1 := Aside0.mk (below_step (below_alloc (Below.refl w.heap.size w) _) hb1)
    clear ho1 hb1
    go_wp2_with fail
    go_ret
    exact ⟨_, rfl, HO1.out, HB1.out⟩
set_option maxRecDepth 100000 in
theorem Waiting_calls (g : Nat) (A : Option Addr) (c : Nat) (l : List Ask) (w : World) (hg : w.cell? ⟨g, 0, none⟩ = some (.slice A l.length c)) (hC : Kd.C k61 w A l.length l) (hsm : l.length ≤ 1099511627776) :
    Calls Try.prog 17 #[.pointer (some ⟨g, 0, none⟩)] w fun e w' => ∃ v, e = .returned v ∧ Kd.R (Kd.int .i64) 3 w' w.heap.size (fun _ => True) v (idsK l (fun i => !held l i) l.length) ∧ Below w.heap.size w w' := by
  have HC := Aside0.mk hC
  clear hC
  have hlt := cell_lt hg
  go_enter Try.func17, Try.ntmps17
  go_wp2_with fail
  refine (ids_waiting w.heap.size g A c l (fun i => !held l i) _ (by rw [(below_alloc (Below.refl w.heap.size w) _).cell (p := ⟨g, 0, none⟩) hlt]; exact hg) (Kd.C_alloc HC.out _) hsm ?_).mono ?_
  · intro i w1 hi hb1
    have hb2 := below_alloc (Below.refl w.heap.size w) (.cells #[.pointer (some ⟨g, 0, none⟩)] 35)
    refine waiting1_calls w.heap.size g i A c l w1 ?_ ?_ (Kd.C_below (Kd.C_alloc HC.out _) hb1) hi
    · rw [hb1.cell (p := ⟨w.heap.size, 0, none⟩) (alloc_lt' _ _)]
      exact blk_cell (blk_new w _) 0
    · rw [hb1.cell (p := ⟨g, 0, none⟩) (alloc_lt _ _ hlt), hb2.cell (p := ⟨g, 0, none⟩) hlt]
      exact hg
  · rintro e w1 ⟨v, rfl, ho1, hb1⟩
    have HO1 := Aside0.mk (Kd.R_lower ho1 (Nat.le_of_lt (alloc_lt' w _)))
    have HB1 := Aside0.mk (below_step (below_alloc (Below.refl w.heap.size w) _) hb1)
    clear ho1 hb1
    go_wp2_with fail
    go_ret
    exact ⟨_, rfl, HO1.out, HB1.out⟩
end Go.Proofs.Ytbpadimcnamdpaa.PK
