/- lock: where an ask lies. -/
import Derived.Test.YtbpadimcnamdpaaLkCmp
namespace Go.Proofs.Ytbpadimcnamdpaa.PK
open Go.RowKit Go.Proofs.YtbpadimcnamdpaaW.PrintWords Go.Proofs.YtbpadimcnamdpaaW.PrintLast Go.Proofs.YtbpadimcnamdpaaW.PrintMore
set_option maxRecDepth 100000 in
theorem find1_calls (v : Value) (id a : Int) (hd : Bool) (g : Nat) (w : World) (hg : w.cell? ⟨g, 0, none⟩ = some (.int .i64 a)) (hlt : g < w.heap.size) :
    Calls Try.prog 43 #[.agg #[v, .int .i64 id, .bool hd], .pointer (some ⟨g, 0, none⟩)] w fun e w' => e = .returned (.bool (id == a)) ∧ Below w.heap.size w w' := by
  go_enter Try.func43, Try.ntmps43
  go_wp2
  go_ret
  exact ⟨rfl, below_alloc (Below.refl _ _) _⟩
/-- The place of the ask with a number; -1: there is none. -/
def findI (l : List S61) (a : Int) : Int := match l.findIdx? (fun x => x.f1 == a) with | some i => (i : Int) | none => -1
theorem rd61_at (l : List S61) (i : Nat) (h : i < l.length) : rd_T61 l (i : Int) = l[i] := by simp [rd_T61, List.getD, h]
theorem findI_some (l : List S61) (a : Int) (k : Nat) (hk : k < l.length) (h : l[k].f1 = a) (hj : ∀ j (hj : j < l.length), j < k → l[j].f1 ≠ a) : findI l a = (k : Int) := by
  unfold findI
  have : l.findIdx? (fun x => x.f1 == a) = some k := by
    rw [List.findIdx?_eq_some_iff_getElem]
    exact ⟨hk, by simpa using h, fun j hjk => by simpa using hj j (by omega) hjk⟩
  rw [this]
theorem findI_none (l : List S61) (a : Int) (hj : ∀ j (hj : j < l.length), l[j].f1 ≠ a) : findI l a = -1 := by
  unfold findI
  have : l.findIdx? (fun x => x.f1 == a) = none := by
    rw [List.findIdx?_eq_none_iff]
    intro x hx
    obtain ⟨j, hjl, rfl⟩ := List.getElem_of_mem hx
    simpa using hj j hjl
  rw [this]
set_option maxRecDepth 100000 in
theorem idx_calls (g : Nat) (a r : Int) (A : Option Addr) (c : Nat) (l : List S61) (w : World) (hg : w.cell? ⟨g, 0, none⟩ = some (.int .i64 a)) (hlt : g < w.heap.size) (hC : Kd.C k61 w A l.length l) (hr : Aside0 (r = findI l a)) :
    Calls Try.prog 42 #[.slice A l.length c, .func (.func 43) #[] #[.pointer (some ⟨g, 0, none⟩)]] w fun e w' => e = .returned (.int .i64 r) ∧ Below w.heap.size w w' := by
  have HC := Aside0.mk hC
  have hmax := Kd.C_max hC
  clear hC
  have HG := Aside0.mk hg
  have HL := Aside0.mk hlt
  clear hg hlt
  go_enter Try.func42, Try.ntmps42
  go_wp2
  go_loopg [8] (l.length + 1) (fun kq v8 w' => ∃ k : Nat, v8 = .int .i64 k ∧ Aside0 (k + kq = l.length + 1) ∧ k ≤ l.length ∧ Aside0 (∀ j (hj : j < l.length), j < k → l[j].f1 ≠ a) ∧ Aside0 (Below w.heap.size w w'))
  case atStart => exact ⟨0, rfl, ⟨by omega⟩, Nat.zero_le _, ⟨fun j _ h => absurd h (Nat.not_lt_zero _)⟩, ⟨Below.refl _ _⟩⟩
  case round =>
    obtain ⟨k, rfl, HK, hk, HJ, HB⟩ := hrel
    cases gk with
    | zero => exact absurd HK.out (by omega)
    | succ k1 =>
      by_cases hkl : k < l.length
      · obtain ⟨ad, A1, c1, e0, hx0, hx1, hx2, hl1, hi1⟩ := at_T61 (Kd.C_below HC.out HB.out) (k : Int) (by omega) (by omega)
        cases e0
        have HX := Aside0.mk (rd61_at l k hkl)
        clear hl1 hi1
        generalize rd_T61 l (k : Int) = x at hx0 hx1 hx2 HX
        simp only [Int.toNat_natCast] at hx0 hx1 hx2
        go_wp2_with fail
        refine (find1_calls _ _ a _ g wr (by rw [HB.out.cell HL.out]; exact HG.out) (Nat.lt_of_lt_of_le HL.out HB.out.size)).mono ?_
        rintro e w1 ⟨rfl, hb1⟩
        have HB1 := Aside0.mk (below_step HB.out hb1)
        clear hb1
        by_cases hxa : x.f1 = a
        · have hxa1 : (x.f1 == a) = true := beq_iff_eq.2 hxa
          have HR : Aside0 (r = (k : Int)) := ⟨by rw [hr.out]; exact findI_some l a k hkl (by rw [← HX.out]; exact hxa) HJ.out⟩
          clear hxa
          go_wp2
          go_ret
          exact ⟨by rw [HR.out]; rfl, HB1.out⟩
        · have hxa1 : (x.f1 == a) = false := beq_eq_false_iff_ne.2 hxa
          have HN : Aside0 (∀ j (hj : j < l.length), j < k + 1 → l[j].f1 ≠ a) := ⟨fun j hj hjk => by
            by_cases e : j = k
            · subst e; rw [← HX.out]; exact hxa
            · exact HJ.out j hj (by omega)⟩
          clear hxa
          go_wp2
          go_roundg k1
          case measure => have := HK.out; omega
          case rel => exact ⟨k + 1, by go_num, ⟨by have := HK.out; omega⟩, by omega, HN, HB1⟩
      · have HR : Aside0 (r = -1) := ⟨by rw [hr.out]; exact findI_none l a (fun j hj => HJ.out j hj (by omega))⟩
        go_wp2
        go_ret
        exact ⟨by rw [HR.out]; rfl, HB.out⟩
set_option maxRecDepth 100000 in
theorem find_calls (g : Nat) (a r : Int) (A : Option Addr) (c : Nat) (l : List S61) (w : World) (hg : w.cell? ⟨g, 0, none⟩ = some (.slice A l.length c)) (hC : Kd.C k61 w A l.length l) (hr : Aside0 (r = findI l a)) :
    Calls Try.prog 31 #[.pointer (some ⟨g, 0, none⟩), .int .i64 a] w fun e w' => e = .returned (.int .i64 r) ∧ Below w.heap.size w w' := by
  have HC := Aside0.mk hC
  clear hC
  have hlt : g < w.heap.size := by
    unfold World.cell? at hg
    by_cases h : g < w.heap.size
    · exact h
    · rw [Array.getElem?_eq_none (by simpa using h)] at hg; simp at hg
  go_enter Try.func31, Try.ntmps31
  go_wp2_with fail
  refine (idx_calls w.heap.size a r A c l _ (blk_cell (blk_new w _) 0) (by show w.heap.size < (w.heap.push _).size; rw [Array.size_push]; omega) (Kd.C_alloc HC.out _) hr).mono ?_
  rintro e w1 ⟨rfl, hb1⟩
  have HB1 := Aside0.mk (below_step (below_alloc (Below.refl w.heap.size w) _) hb1)
  clear hb1
  go_wp2_with fail
  go_ret
  exact ⟨rfl, HB1.out⟩
end Go.Proofs.Ytbpadimcnamdpaa.PK
