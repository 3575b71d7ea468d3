/- lock: the ids of those for which something is so. -/
import Derived.Test.YtbpadimcnamdpaaLkReady
namespace Go.Proofs.Ytbpadimcnamdpaa.PK
open Go.RowKit Go.Proofs.YtbpadimcnamdpaaW.PrintWords Go.Proofs.YtbpadimcnamdpaaW.PrintLast Go.Proofs.YtbpadimcnamdpaaW.PrintMore
def idsK (l : List Ask) (p : Nat → Bool) (k : Nat) : List Int := ((List.range k).filter p).map fun i : Nat => (rd_T61 l (i : Int)).f1
theorem info3 : (Try.prog.info? 3).map (fun i => (i.zero, i.size, i.bytes)) = some (some (.int .i64 0), 1, 8) := by kernel_rfl
theorem idsK_yes (l : List Ask) (p : Nat → Bool) (k : Nat) (h : p k = true) : idsK l p (k + 1) = idsK l p k ++ [(rd_T61 l (k : Int)).f1] := by
  unfold idsK
  rw [List.range_succ, List.filter_append, List.map_append]
  simp [h]
theorem idsK_no (l : List Ask) (p : Nat → Bool) (k : Nat) (h : p k = false) : idsK l p (k + 1) = idsK l p k := by
  unfold idsK
  rw [List.range_succ, List.filter_append, List.map_append]
  simp [h]
theorem idsK_length (l : List Ask) (p : Nat → Bool) (k : Nat) : (idsK l p k).length ≤ k := by
  unfold idsK
  rw [List.length_map]
  exact Nat.le_trans (List.length_filter_le _ _) (by simp)
set_option maxHeartbeats 1000000 in
set_option maxRecDepth 100000 in
theorem ids_ready (gb g : Nat) (A : Option Addr) (c : Nat) (l : List Ask) (p : Nat → Bool) (w : World) (hg : w.cell? ⟨g, 0, none⟩ = some (.slice A l.length c)) (hC : Kd.C k61 w A l.length l) (hsm : l.length ≤ 1099511627776)
    (hcl : ∀ (i : Nat) (w1 : World), i < l.length → Below w.heap.size w w1 → Calls Try.prog 34 #[.int .i64 i, .pointer (some ⟨gb, 0, none⟩)] w1 fun e w2 => e = .returned (.bool (p i)) ∧ Below w1.heap.size w1 w2) :
    Calls Try.prog 28 #[.pointer (some ⟨g, 0, none⟩), .func (.func 34) #[] #[.pointer (some ⟨gb, 0, none⟩)]] w fun e w' => ∃ v, e = .returned v ∧ Kd.R (Kd.int .i64) 3 w' w.heap.size (fun _ => True) v (idsK l p l.length) ∧ Below w.heap.size w w' := by
  have HC := Aside0.mk hC
  clear hC
  have HCL := Aside0.mk hcl
  clear hcl
  go_enter Try.func28, Try.ntmps28
  go_wp2
  go_loopg [15, 5] (l.length + 1) (fun kq v15 v5 w' => ∃ k : Nat, v15 = .int .i64 k ∧ Aside0 (k + kq = l.length + 1) ∧ k ≤ l.length ∧ Aside0 (Kd.R (Kd.int .i64) 3 w' w.heap.size (fun _ => True) v5 (idsK l p k)) ∧ Aside0 (Below w.heap.size w w'))
  case atStart => exact ⟨0, rfl, ⟨by omega⟩, Nat.zero_le _, ⟨(Kd.R_nil (Kd.int .i64) 3 w w.heap.size (fun _ => True) : _)⟩, ⟨Below.refl _ _⟩⟩
  case round =>
    obtain ⟨k, rfl, HK, hk, HO, HB⟩ := hrel
    cases gk with
    | zero => exact absurd HK.out (by omega)
    | succ k1 =>
      by_cases hkl : k < l.length
      · obtain ⟨ad2, A2, c2, e0, hz0, hz1, hz2, hl2, hi2⟩ := at_T61 (Kd.C_below HC.out HB.out) (k : Int) (by omega) (by omega)
        cases e0
        clear hl2 hi2
        simp only [Int.toNat_natCast] at hz0 hz1 hz2
        obtain ⟨y, hy⟩ : ∃ y, y = rd_T61 l (k : Int) := ⟨_, rfl⟩
        rw [← hy] at hz0 hz1 hz2
        have HY := Aside0.mk hy
        clear hy
        go_wp2_with fail
        refine (HCL.out k _ hkl (below_alloc HB.out _)).mono ?_
        rintro e w5 ⟨rfl, hb5⟩
        have hcy : w5.cell? ⟨wr.heap.size, 1, none⟩ = some (.int .i64 y.f1) := (hb5.cell (p := ⟨wr.heap.size, 1, none⟩) (by show wr.heap.size < (wr.heap.push _).size; rw [Array.size_push]; omega)).trans (blk_cell (blk_new wr _) 1)
        have HB5 := Aside0.mk (below_step (below_alloc HB.out _) hb5)
        have HO5 := Aside0.mk (Kd.R_below (Kd.R_alloc HO.out _) hb5)
        clear hb5 HB HO hz0 hz1 hz2
        cases hpk : p k with
        | true =>
          have HI := Aside0.mk (idsK_yes l p k hpk)
          rw [← HY.out] at HI
          have HL := Aside0.mk (idsK_length l p k)
          go_wp2_with (first | ((with_reducible refine gate_builtin (b := .append) (xs := #[.tmp 23, .tmp 26]) rfl ?_); at_builtin; refine Kd.R_append (Kd.int .i64) (w0 := w) w.heap.size rfl (.tmp 23) (.tmp 26) 24 3 (.int .i64 0) 8 rfl Try.underlying24 info3 rfl (by decide) (by omega) u5 (idsK l p k) (y.f1) [.int .i64 y.f1] (fun _ => True) (fun _ => False) rfl rfl ?aP (fun _ hk => hk.elim) (fun _ _ => trivial) HO5.out HB5.out ?aS ?aL ?_; (case aP => exact rfl); (case aS => exact HB5.out.size); (case aL => have := HL.out; omega); intro v1 w6 ho hb hg_ hat_; clear hg_ hat_; rw [← HI.out] at ho; have HO6 := Aside0.mk ho; have HB6 := Aside0.mk hb; clear ho hb))
          go_roundg k1
          case measure => have := HK.out; omega
          case rel => exact ⟨k + 1, by go_num, ⟨by have := HK.out; omega⟩, by omega, HO6, HB6⟩
        | false =>
          have HI := Aside0.mk (idsK_no l p k hpk)
          rw [← HI.out] at HO5
          go_wp2
          go_roundg k1
          case measure => have := HK.out; omega
          case rel => exact ⟨k + 1, by go_num, ⟨by have := HK.out; omega⟩, by omega, HO5, HB5⟩
      · have e : k = l.length := by omega
        subst e
        go_wp2
        go_ret
        exact ⟨_, rfl, HO.out, HB.out⟩
set_option maxHeartbeats 1000000 in
set_option maxRecDepth 100000 in
theorem ids_waiting (gb g : Nat) (A : Option Addr) (c : Nat) (l : List Ask) (p : Nat → Bool) (w : World) (hg : w.cell? ⟨g, 0, none⟩ = some (.slice A l.length c)) (hC : Kd.C k61 w A l.length l) (hsm : l.length ≤ 1099511627776)
    (hcl : ∀ (i : Nat) (w1 : World), i < l.length → Below w.heap.size w w1 → Calls Try.prog 33 #[.int .i64 i, .pointer (some ⟨gb, 0, none⟩)] w1 fun e w2 => e = .returned (.bool (p i)) ∧ Below w1.heap.size w1 w2) :
    Calls Try.prog 28 #[.pointer (some ⟨g, 0, none⟩), .func (.func 33) #[] #[.pointer (some ⟨gb, 0, none⟩)]] w fun e w' => ∃ v, e = .returned v ∧ Kd.R (Kd.int .i64) 3 w' w.heap.size (fun _ => True) v (idsK l p l.length) ∧ Below w.heap.size w w' := by
  have HC := Aside0.mk hC
  clear hC
  have HCL := Aside0.mk hcl
  clear hcl
  go_enter Try.func28, Try.ntmps28
  go_wp2
  go_loopg [15, 5] (l.length + 1) (fun kq v15 v5 w' => ∃ k : Nat, v15 = .int .i64 k ∧ Aside0 (k + kq = l.length + 1) ∧ k ≤ l.length ∧ Aside0 (Kd.R (Kd.int .i64) 3 w' w.heap.size (fun _ => True) v5 (idsK l p k)) ∧ Aside0 (Below w.heap.size w w'))
  case atStart => exact ⟨0, rfl, ⟨by omega⟩, Nat.zero_le _, ⟨(Kd.R_nil (Kd.int .i64) 3 w w.heap.size (fun _ => True) : _)⟩, ⟨Below.refl _ _⟩⟩
  case round =>
    obtain ⟨k, rfl, HK, hk, HO, HB⟩ := hrel
    cases gk with
    | zero => exact absurd HK.out (by omega)
    | succ k1 =>
      by_cases hkl : k < l.length
      · obtain ⟨ad2, A2, c2, e0, hz0, hz1, hz2, hl2, hi2⟩ := at_T61 (Kd.C_below HC.out HB.out) (k : Int) (by omega) (by omega)
        cases e0
        clear hl2 hi2
        simp only [Int.toNat_natCast] at hz0 hz1 hz2
        obtain ⟨y, hy⟩ : ∃ y, y = rd_T61 l (k : Int) := ⟨_, rfl⟩
        rw [← hy] at hz0 hz1 hz2
        have HY := Aside0.mk hy
        clear hy
        go_wp2_with fail
        refine (HCL.out k _ hkl (below_alloc HB.out _)).mono ?_
        rintro e w5 ⟨rfl, hb5⟩
        have hcy : w5.cell? ⟨wr.heap.size, 1, none⟩ = some (.int .i64 y.f1) := (hb5.cell (p := ⟨wr.heap.size, 1, none⟩) (by show wr.heap.size < (wr.heap.push _).size; rw [Array.size_push]; omega)).trans (blk_cell (blk_new wr _) 1)
        have HB5 := Aside0.mk (below_step (below_alloc HB.out _) hb5)
        have HO5 := Aside0.mk (Kd.R_below (Kd.R_alloc HO.out _) hb5)
        clear hb5 HB HO hz0 hz1 hz2
        cases hpk : p k with
        | true =>
          have HI := Aside0.mk (idsK_yes l p k hpk)
          rw [← HY.out] at HI
          have HL := Aside0.mk (idsK_length l p k)
          go_wp2_with (first | ((with_reducible refine gate_builtin (b := .append) (xs := #[.tmp 23, .tmp 26]) rfl ?_); at_builtin; refine Kd.R_append (Kd.int .i64) (w0 := w) w.heap.size rfl (.tmp 23) (.tmp 26) 24 3 (.int .i64 0) 8 rfl Try.underlying24 info3 rfl (by decide) (by omega) u5 (idsK l p k) (y.f1) [.int .i64 y.f1] (fun _ => True) (fun _ => False) rfl rfl ?aP (fun _ hk => hk.elim) (fun _ _ => trivial) HO5.out HB5.out ?aS ?aL ?_; (case aP => exact rfl); (case aS => exact HB5.out.size); (case aL => have := HL.out; omega); intro v1 w6 ho hb hg_ hat_; clear hg_ hat_; rw [← HI.out] at ho; have HO6 := Aside0.mk ho; have HB6 := Aside0.mk hb; clear ho hb))
          go_roundg k1
          case measure => have := HK.out; omega
          case rel => exact ⟨k + 1, by go_num, ⟨by have := HK.out; omega⟩, by omega, HO6, HB6⟩
        | false =>
          have HI := Aside0.mk (idsK_no l p k hpk)
          rw [← HI.out] at HO5
          go_wp2
          go_roundg k1
          case measure => have := HK.out; omega
          case rel => exact ⟨k + 1, by go_num, ⟨by have := HK.out; omega⟩, by omega, HO5, HB5⟩
      · have e : k = l.length := by omega
        subst e
        go_wp2
        go_ret
        exact ⟨_, rfl, HO.out, HB.out⟩
set_option maxHeartbeats 1000000 in
set_option maxRecDepth 100000 in
theorem ids_holding (gb g : Nat) (A : Option Addr) (c : Nat) (l : List Ask) (p : Nat → Bool) (w : World) (hg : w.cell? ⟨g, 0, none⟩ = some (.slice A l.length c)) (hC : Kd.C k61 w A l.length l) (hsm : l.length ≤ 1099511627776)
    (hcl : ∀ (i : Nat) (w1 : World), i < l.length → Below w.heap.size w w1 → Calls Try.prog 29 #[.int .i64 i, .pointer (some ⟨gb, 0, none⟩)] w1 fun e w2 => e = .returned (.bool (p i)) ∧ Below w1.heap.size w1 w2) :
    Calls Try.prog 28 #[.pointer (some ⟨g, 0, none⟩), .func (.func 29) #[] #[.pointer (some ⟨gb, 0, none⟩)]] w fun e w' => ∃ v, e = .returned v ∧ Kd.R (Kd.int .i64) 3 w' w.heap.size (fun _ => True) v (idsK l p l.length) ∧ Below w.heap.size w w' := by
  have HC := Aside0.mk hC
  clear hC
  have HCL := Aside0.mk hcl
  clear hcl
  go_enter Try.func28, Try.ntmps28
  go_wp2
  go_loopg [15, 5] (l.length + 1) (fun kq v15 v5 w' => ∃ k : Nat, v15 = .int .i64 k ∧ Aside0 (k + kq = l.length + 1) ∧ k ≤ l.length ∧ Aside0 (Kd.R (Kd.int .i64) 3 w' w.heap.size (fun _ => True) v5 (idsK l p k)) ∧ Aside0 (Below w.heap.size w w'))
  case atStart => exact ⟨0, rfl, ⟨by omega⟩, Nat.zero_le _, ⟨(Kd.R_nil (Kd.int .i64) 3 w w.heap.size (fun _ => True) : _)⟩, ⟨Below.refl _ _⟩⟩
  case round =>
    obtain ⟨k, rfl, HK, hk, HO, HB⟩ := hrel
    cases gk with
    | zero => exact absurd HK.out (by omega)
    | succ k1 =>
      by_cases hkl : k < l.length
      · obtain ⟨ad2, A2, c2, e0, hz0, hz1, hz2, hl2, hi2⟩ := at_T61 (Kd.C_below HC.out HB.out) (k : Int) (by omega) (by omega)
        cases e0
        clear hl2 hi2
        simp only [Int.toNat_natCast] at hz0 hz1 hz2
        obtain ⟨y, hy⟩ : ∃ y, y = rd_T61 l (k : Int) := ⟨_, rfl⟩
        rw [← hy] at hz0 hz1 hz2
        have HY := Aside0.mk hy
        clear hy
        go_wp2_with fail
        refine (HCL.out k _ hkl (below_alloc HB.out _)).mono ?_
        rintro e w5 ⟨rfl, hb5⟩
        have hcy : w5.cell? ⟨wr.heap.size, 1, none⟩ = some (.int .i64 y.f1) := (hb5.cell (p := ⟨wr.heap.size, 1, none⟩) (by show wr.heap.size < (wr.heap.push _).size; rw [Array.size_push]; omega)).trans (blk_cell (blk_new wr _) 1)
        have HB5 := Aside0.mk (below_step (below_alloc HB.out _) hb5)
        have HO5 := Aside0.mk (Kd.R_below (Kd.R_alloc HO.out _) hb5)
        clear hb5 HB HO hz0 hz1 hz2
        cases hpk : p k with
        | true =>
          have HI := Aside0.mk (idsK_yes l p k hpk)
          rw [← HY.out] at HI
          have HL := Aside0.mk (idsK_length l p k)
          go_wp2_with (first | ((with_reducible refine gate_builtin (b := .append) (xs := #[.tmp 23, .tmp 26]) rfl ?_); at_builtin; refine Kd.R_append (Kd.int .i64) (w0 := w) w.heap.size rfl (.tmp 23) (.tmp 26) 24 3 (.int .i64 0) 8 rfl Try.underlying24 info3 rfl (by decide) (by omega) u5 (idsK l p k) (y.f1) [.int .i64 y.f1] (fun _ => True) (fun _ => False) rfl rfl ?aP (fun _ hk => hk.elim) (fun _ _ => trivial) HO5.out HB5.out ?aS ?aL ?_; (case aP => exact rfl); (case aS => exact HB5.out.size); (case aL => have := HL.out; omega); intro v1 w6 ho hb hg_ hat_; clear hg_ hat_; rw [← HI.out] at ho; have HO6 := Aside0.mk ho; have HB6 := Aside0.mk hb; clear ho hb))
          go_roundg k1
          case measure => have := HK.out; omega
          case rel => exact ⟨k + 1, by go_num, ⟨by have := HK.out; omega⟩, by omega, HO6, HB6⟩
        | false =>
          have HI := Aside0.mk (idsK_no l p k hpk)
          rw [← HI.out] at HO5
          go_wp2
          go_roundg k1
          case measure => have := HK.out; omega
          case rel => exact ⟨k + 1, by go_num, ⟨by have := HK.out; omega⟩, by omega, HO5, HB5⟩
      · have e : k = l.length := by omega
        subst e
        go_wp2
        go_ret
        exact ⟨_, rfl, HO.out, HB.out⟩
end Go.Proofs.Ytbpadimcnamdpaa.PK
