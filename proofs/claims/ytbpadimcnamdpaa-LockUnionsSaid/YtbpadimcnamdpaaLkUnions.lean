/- LockUnions, walked. -/
import Derived.Test.YtbpadimcnamdpaaLkUnPure
import Derived.Test.YtbpadimcnamdpaaWRepsOne
namespace Go.Proofs.Ytbpadimcnamdpaa.PK
open Go.RowKit Go.Proofs.YtbpadimcnamdpaaW.PrintWords Go.Proofs.YtbpadimcnamdpaaW.PrintLast Go.Proofs.YtbpadimcnamdpaaW.PrintMore
/-- A block that holds a row's cells is read as that row. -/
theorem C_of_block {α : Type} {d : Kd α} {W1 : World} {b t : Nat} {cs : Array Value} {xs : List α} (hb : W1.heap[b]? = some (.cells cs t (0, 0))) (hr : Reps (d.K W1) d.sz xs cs.toList) (hm : xs.length ≤ 9223372036854775807) : d.C W1 (some ⟨b, 0, none⟩) xs.length xs := by
  refine ⟨rfl, hm, fun _ => ⟨⟨b, 0, none⟩, rfl, fun j p hj => ?_⟩⟩
  have h1 := hr.2 j p hj
  refine ⟨_, d.K_len h1, h1, fun i u hu => ?_⟩
  rw [List.getElem?_take] at hu
  split at hu
  · rw [List.getElem?_drop, Array.getElem?_toList] at hu
    rw [add_plain]
    exact (blk_cell hb _).trans hu
  · cases hu
theorem union_same (a b : List W) : uniL (sortL (b ++ a)) = uniL (sortL (a ++ b)) :=
  ((uni_US (b ++ a)).perm (fun x => by simp only [List.mem_append]; exact Or.comm)).uniq (uni_US (a ++ b))
theorem sortL_nil : sortL [] = [] := by
  unfold sortL Sort.insertionSort
  rw [Sort.insOuter, if_neg (by simp)]
theorem mid_one (l : List W) (i : Nat) (h : i < l.length) : (l.take (i + 1)).drop i = [l[i]] := by
  rw [List.take_succ_eq_append_getElem h]
  exact List.drop_left' (by rw [List.length_take]; omega)
theorem cell_lt' {w : World} {a : Addr} {v : Value} (hc : w.cell? a = some v) : a.block < w.heap.size := by
  unfold World.cell? at hc
  by_cases hh : a.block < w.heap.size
  · exact hh
  · rw [Array.getElem?_eq_none (by simpa using hh)] at hc; simp at hc
theorem below_cell {w w5 : World} {a : Addr} {v : Value} (hb : Below w.heap.size w w5) (hc : w.cell? a = some v) : w5.cell? a = some v := (hb.cell (cell_lt' hc)).trans hc
set_option maxHeartbeats 4000000 in
set_option maxRecDepth 100000 in
theorem LockUnions_calls (A B : Option Addr) (ca cb : Nat) (a b : List W) (w : World) (hA : Kd.C k31 w A a.length a) (hB : Kd.C k31 w B b.length b) (hca : a.length ≤ ca) (hcb : b.length ≤ cb) :
    Calls Try.prog 3 #[.slice A a.length ca, .slice B b.length cb] w fun e w' => e = .returned (.bool true) ∧ Below w.heap.size w w' := by
  have HA := Aside0.mk hA
  have HB := Aside0.mk hB
  have hma := Kd.C_max hA
  have hmb := Kd.C_max hB
  clear hA hB
  obtain ⟨gr, ⟨K, hK⟩, hgr⟩ := great_at [⟨0, 0, [], a⟩, ⟨0, 0, [], b⟩]
  have HK := Aside0.mk (hK K (Nat.le_refl _))
  clear hK
  go_enter Try.func3, Try.ntmps3
  go_wp2_with fail
  refine (affluxlaw22_great.calls K (some ⟨w.heap.size, 0, none⟩) 2 [⟨0, 0, [], a⟩, ⟨0, 0, [], b⟩] gr _ (C_of_block (blk_new w _) (Reps.c4 (k26_mk _ ⟨0, 0, [], a⟩ (Nat.le_refl _) (Kd.C_nil _ _) hca (Kd.C_alloc HA.out _)) (Reps.c4 (k26_mk _ ⟨0, 0, [], b⟩ (Nat.le_refl _) (Kd.C_nil _ _) hcb (Kd.C_alloc HB.out _)) (Reps.none _ _))) (by simp)) (Nat.le_refl _) HK.out).mono ?_
  rintro e w1 ⟨rfl, ⟨n1, rfl⟩⟩
  have HBL := Aside0.mk (pw_below_drewN (below_alloc (Below.refl w.heap.size w) (.cells #[.int .i64 0, .int .i64 0, .slice none 0 0, .slice A a.length ca, .int .i64 0, .int .i64 0, .slice none 0 0, .slice B b.length cb] 26)) n1)
  generalize (w.alloc (.cells #[.int .i64 0, .int .i64 0, .slice none 0 0, .slice A a.length ca, .int .i64 0, .int .i64 0, .slice none 0 0, .slice B b.length cb] 26)).drewN n1 = w1 at HBL ⊢
  cases gr with
  | true =>
    clear hgr
    go_wp2_with fail
    refine (awake_calls _).mono ?_
    rintro e w2 ⟨rfl, hb2⟩
    replace HBL := Aside0.mk (below_step HBL.out hb2)
    clear hb2
    go_wp2_with fail
    go_ret
    exact ⟨rfl, HBL.out⟩
  | false =>
    have hla : a.length ≤ 10 := ((hgr rfl).2 0 (by simp)).1
    have hlb : b.length ≤ 10 := ((hgr rfl).2 1 (by simp)).1
    clear hgr
    go_wp2_with fail
    go_loopg [5] (a.length + 1) (fun kq v5 w' => ∃ i : Nat, v5 = .int .i64 i ∧ Aside0 (i + kq = a.length + 1) ∧ i ≤ a.length ∧ Aside0 (Below w.heap.size w w'))
    case atStart => exact ⟨0, rfl, ⟨by omega⟩, Nat.zero_le _, HBL⟩
    case round =>
      clear HBL
      obtain ⟨i, rfl, HQ, hi, HBL⟩ := hrel
      have hgo : ∀ w2 : World, Below w.heap.size w w2 → True := fun _ _ => trivial
      clear hgo
      cases gk with
      | zero => exact absurd HQ.out (by omega)
      | succ k1 =>
        by_cases hin : i < a.length ∧ i < b.length
        · obtain ⟨hia, hib⟩ := hin
          obtain ⟨x, hx⟩ : ∃ x, x = a[i] := ⟨_, rfl⟩
          obtain ⟨y, hy⟩ : ∃ y, y = b[i] := ⟨_, rfl⟩
          obtain ⟨i0, hi0, hzz⟩ := Option.map_eq_some_iff.1 info31
          simp only [Prod.mk.injEq] at hzz
          have kca := cut_mid (P := Try.prog) 22 31 .i64 .i64 Try.underlying22 hi0 2 hzz.2.1 A a.length ca (i : Int) ((i : Int) + 1) (by omega) (by omega) (by omega) hca
          have kcb := cut_mid (P := Try.prog) 22 31 .i64 .i64 Try.underlying22 hi0 2 hzz.2.1 B b.length cb (i : Int) ((i : Int) + 1) (by omega) (by omega) (by omega) hcb
          have e1 : ((i : Int) + 1).toNat = i + 1 := by omega
          rw [e1, Int.toNat_natCast, show i + 1 - i = 1 by omega] at kca kcb
          have hca1 : Kd.C k31 w (if ca = i then A else A.map (·.add (i * 2))) 1 [x] := by
            have := Kd.C_mid (lo := i) (hi := i + 1) HA.out (by omega) (by omega) hca
            have e : (a.take (i + 1)).drop i = [x] := by rw [hx]; exact mid_one a i hia
            rw [e] at this; exact this
          have hcb1 : Kd.C k31 w (if cb = i then B else B.map (·.add (i * 2))) 1 [y] := by
            have := Kd.C_mid (lo := i) (hi := i + 1) HB.out (by omega) (by omega) hcb
            have e : (b.take (i + 1)).drop i = [y] := by rw [hy]; exact mid_one b i hib
            rw [e] at this; exact this
          generalize (if ca = i then A else A.map (·.add (i * 2))) = A1 at kca hca1
          generalize (if cb = i then B else B.map (·.add (i * 2))) = B1 at kcb hcb1
          obtain ⟨adA, eA, hxa0, hxa1⟩ := at_T31 (Kd.C_below HA.out HBL.out) (i : Int) (by omega) (by omega)
          obtain ⟨adB, eB, hxb0, hxb1⟩ := at_T31 (Kd.C_below HB.out HBL.out) (i : Int) (by omega) (by omega)
          cases eA
          cases eB
          rw [rd31_at a i hia, ← hx] at hxa0 hxa1
          rw [rd31_at b i hib, ← hy] at hxb0 hxb1
          simp only [Int.toNat_natCast] at hxa0 hxa1 hxb0 hxb1
          clear hzz hi0 i0 hx hy e1
          obtain ⟨K2, hK2⟩ := clash_one x y
          have HK2 := Aside0.mk (hK2 K2 (Nat.le_refl _))
          have HCF := Aside0.mk (clash1_f x y)
          have HCA1 := Aside0.mk hca1
          have HCB1 := Aside0.mk hcb1
          clear hK2 hca1 hcb1
          generalize clash1 x y = q at HK2 HCF
          have ewi : IntKind.i64.wrap ((i : Int) + 1) = (i : Int) + 1 := by rw [IntKind.wrap_i64]; omega
          have hcai : 1 ≤ ca - i := by omega
          have hcbi : 1 ≤ cb - i := by omega
          have HF : Aside0 (∀ w5, Below wr.heap.size wr w5 → w5.cell? (adA.add (i * 2)) = some (.string x.f0) ∧ w5.cell? ⟨(adA.add (i * 2)).block, (adA.add (i * 2)).off + 1, none⟩ = some (.bool x.f1) ∧ w5.cell? (adB.add (i * 2)) = some (.string y.f0) ∧ w5.cell? ⟨(adB.add (i * 2)).block, (adB.add (i * 2)).off + 1, none⟩ = some (.bool y.f1)) := ⟨fun w5 hb => ⟨below_cell hb hxa0, below_cell hb hxa1, below_cell hb hxb0, below_cell hb hxb1⟩⟩
          go_wp2_with fail
          have HB0 : Aside0 (Below wr.heap.size wr wr.drew) := ⟨below_drew (Below.refl _ _)⟩
          go_region_law (first | (go_simp; go_at_call 8; refine (lock_Clash.calls x.f0 x.f1 y.f0 y.f1 q _ HCF.out).mono ?_; rintro e wA ⟨rfl, hbA⟩; have HBX := Aside0.mk (below_step (by first | exact HBY.out | exact HB0.out : Below wr.heap.size wr _) hbA); obtain ⟨f1, f2, f3, f4⟩ := HF.out _ HBX.out; clear hbA) | (go_simp; go_at_call 9; refine (affluxlaw22_clash.calls K2 A1 (ca - i) [x] B1 (cb - i) [y] q _ (Kd.C_below HCA1.out (below_step HBL.out (by first | exact HBX.out | exact HB0.out))) hcai (Kd.C_below HCB1.out (below_step HBL.out (by first | exact HBX.out | exact HB0.out))) hcbi HK2.out).mono ?_; rintro e wB ⟨rfl, ⟨nB, hwB⟩⟩; have HBY : Aside0 (Below wr.heap.size wr wB) := ⟨by rw [hwB]; exact pw_below_drewN (by first | exact HBX.out | exact HB0.out) nB⟩; obtain ⟨g1, g2, g3, g4⟩ := HF.out _ HBY.out; clear hwB))
          all_goals
            go_wp2
            go_roundg k1
            case measure => have := HQ.out; omega
            case rel => exact ⟨i + 1, by go_num, ⟨by have := HQ.out; omega⟩, by omega, ⟨below_step HBL.out (by first | exact HBY.out | exact HBX.out)⟩⟩
        · by_cases hia : i < a.length
          · have hib : ¬ (i : Int) < (b.length : Int) := by omega
            clear hin
            have HA' := Aside0.mk (Kd.C_below HA.out HBL.out)
            obtain ⟨xs, hxs⟩ : ∃ xs, xs = [] ++ a ++ b := ⟨_, rfl⟩
            have hxs2 : xs = a ++ b := hxs
            obtain ⟨u, hu⟩ : ∃ u, u = uniL (sortL xs) := ⟨_, rfl⟩
            have hxl : xs.length ≤ 20 := by rw [hxs2, List.length_append]; omega
            have hul : u.length ≤ 20 := by rw [hu]; exact Nat.le_trans (uniL_length _) (by rw [sortL_length]; exact hxl)
            obtain ⟨K3, hK3⟩ := union_at xs (by omega)
            rw [← hu] at hK3
            obtain ⟨K4, hK4⟩ := wants_at u (by omega)
            have HK3 := Aside0.mk (hK3 K3 (Nat.le_refl _))
            have HK4 := Aside0.mk (hK4 K4 (Nat.le_refl _))
            have HF1 : Aside0 ([a, b].flatten = xs) := ⟨by rw [hxs2]; simp⟩
            have HF2 : Aside0 (uniL (sortL ([b, [], a].flatten)) = u) := ⟨by rw [hu, hxs2, ← union_same]; simp⟩
            have HXS := Aside0.mk hxs
            have HXS2 := Aside0.mk hxs2
            have HU := Aside0.mk hu
            clear hK3 hK4 hxs hxs2 hu
            go_wp2_with (first | ((with_reducible refine gate_builtin (b := .append) (xs := #[.tmp 47, .tmp 48]) rfl ?_); at_builtin; refine Kd.R_append_rows k31 (w0 := w) w.heap.size rfl (.tmp 47) (.tmp 48) 22 31 (.agg #[(.string ⟨#[]⟩), (.bool false)]) 24 rfl Try.underlying22 info31 rfl (by decide) (by omega) (.slice (some ⟨wr.heap.size, 0, none⟩) 0 0) [] a A a.length ca (fun _ => True) (fun _ => False) rfl rfl (R_room k31 31 _ w.heap.size wr.heap.size 0 #[] (blk_new wr _) HBL.out.size (Nat.zero_le _) rfl) (Kd.C_alloc HA'.out _) (fun x cs h => KM _ _ _ x cs h) (fun _ hk => hk.elim) (fun _ _ => trivial) (below_alloc HBL.out _) (below_alloc HBL.out _).size (by simp; omega) ?_; intro v1 w6 ho1 hb1 hg_ hat_; clear hg_ hat_; have HO1 := Aside0.mk ho1; have HB1 := Aside0.mk hb1; clear ho1 hb1) | ((with_reducible refine gate_builtin (b := .append) (xs := #[.tmp 49, .tmp 50]) rfl ?_); at_builtin; refine Kd.R_append_rows k31 (w0 := w) w.heap.size rfl (.tmp 49) (.tmp 50) 22 31 (.agg #[(.string ⟨#[]⟩), (.bool false)]) 24 rfl Try.underlying22 info31 rfl (by decide) (by omega) v1 ([] ++ a) b B b.length cb (fun _ => True) (fun _ => False) rfl rfl HO1.out (Kd.C_below HB.out HB1.out) (fun x cs h => KM _ _ _ x cs h) (fun _ hk => hk.elim) (fun _ _ => trivial) HB1.out HB1.out.size (by simp; omega) ?_; intro v2 w7 ho2 hb2 hg_ hat_; clear hg_ hat_; rw [← HXS.out] at ho2; obtain ⟨A2, c2, e2⟩ := Kd.R_slice ho2; subst e2; have HO2 := Aside0.mk ho2; have HB2 := Aside0.mk hb2; clear ho2 hb2))
            refine (union_calls (some ⟨w7.heap.size, 0, none⟩) 2 [a, b] _ (C_of_block (blk_new w7 _) (Reps.one (show (Kd.slice 31 k31).K _ a [.slice A a.length ca] from ⟨A, ca, rfl, hca, Kd.C_alloc (Kd.C_below HA.out HB2.out) _⟩) (Reps.one (show (Kd.slice 31 k31).K _ b [.slice B b.length cb] from ⟨B, cb, rfl, hcb, Kd.C_alloc (Kd.C_below HB.out HB2.out) _⟩) (Reps.none _ _))) (by simp)) (by rw [HF1.out]; exact hxl)).mono ?_
            rintro e w8 ⟨v3, rfl, ho3, hb3⟩
            rw [HF1.out, ← HU.out] at ho3
            obtain ⟨A3, c3, rfl⟩ := Kd.R_slice ho3
            have HB3 := Aside0.mk (below_step (below_alloc HB2.out _) hb3)
            replace HO2 := Aside0.mk (Kd.R_below (Kd.R_alloc HO2.out _) hb3)
            have HO3 := Aside0.mk ho3
            clear hb3 ho3 HB2
            go_wp2_with fail
            refine (affluxlaw22_union.calls K3 A2 c2 xs u w8 (Kd.R_reads' HO2.out).2.2 (Kd.R_reads' HO2.out).2.1 HK3.out).mono ?_
            rintro e w9 ⟨v4, rfl, ho4, hb4⟩
            obtain ⟨A4, c4, rfl⟩ := Kd.R_slice ho4
            replace HB3 := Aside0.mk (below_step HB3.out hb4)
            replace HO2 := Aside0.mk (Kd.R_below HO2.out hb4)
            replace HO3 := Aside0.mk (Kd.R_below HO3.out hb4)
            have HO4 := Aside0.mk ho4
            clear hb4 ho4
            go_wp2_with fail
            refine (affluxlaw22_wants.calls K4 A3 c3 u A4 c4 u true w9 (Kd.R_reads' HO3.out).2.2 (Kd.R_reads' HO3.out).2.1 (Kd.R_reads' HO4.out).2.2 (Kd.R_reads' HO4.out).2.1 HK4.out).mono ?_
            rintro e w10 ⟨rfl, ⟨n10, hw10⟩⟩
            replace HB3 : Aside0 (Below w.heap.size w w10) := ⟨by rw [hw10]; exact pw_below_drewN HB3.out n10⟩
            replace HO2 := Aside0.mk (Kd.R_drewN HO2.out n10)
            rw [← hw10] at HO2
            clear HO3 HO4 hw10
            go_wp2_with fail
            refine (union_calls (some ⟨w10.heap.size, 0, none⟩) 3 [b, [], a] _ (C_of_block (blk_new w10 _) (Reps.one (show (Kd.slice 31 k31).K _ b [.slice B b.length cb] from ⟨B, cb, rfl, hcb, Kd.C_alloc (Kd.C_below HB.out HB3.out) _⟩) (Reps.one (show (Kd.slice 31 k31).K _ [] [.slice none 0 0] from ⟨none, 0, rfl, Nat.le_refl _, Kd.C_nil _ _⟩) (Reps.one (show (Kd.slice 31 k31).K _ a [.slice A a.length ca] from ⟨A, ca, rfl, hca, Kd.C_alloc (Kd.C_below HA.out HB3.out) _⟩) (Reps.none _ _)))) (by simp)) (by simp; omega)).mono ?_
            rintro e w11 ⟨v5, rfl, ho5, hb5⟩
            rw [HF2.out] at ho5
            obtain ⟨A5, c5, rfl⟩ := Kd.R_slice ho5
            replace HB3 := Aside0.mk (below_step (below_alloc HB3.out _) hb5)
            replace HO2 := Aside0.mk (Kd.R_below (Kd.R_alloc HO2.out _) hb5)
            have HO5 := Aside0.mk ho5
            clear hb5 ho5
            go_wp2_with fail
            refine (affluxlaw22_union.calls K3 A2 c2 xs u w11 (Kd.R_reads' HO2.out).2.2 (Kd.R_reads' HO2.out).2.1 HK3.out).mono ?_
            rintro e w12 ⟨v6, rfl, ho6, hb6⟩
            obtain ⟨A6, c6, rfl⟩ := Kd.R_slice ho6
            replace HB3 := Aside0.mk (below_step HB3.out hb6)
            replace HO5 := Aside0.mk (Kd.R_below HO5.out hb6)
            have HO6 := Aside0.mk ho6
            clear hb6 ho6 HO2
            go_wp2_with fail
            refine (affluxlaw22_wants.calls K4 A5 c5 u A6 c6 u true w12 (Kd.R_reads' HO5.out).2.2 (Kd.R_reads' HO5.out).2.1 (Kd.R_reads' HO6.out).2.2 (Kd.R_reads' HO6.out).2.1 HK4.out).mono ?_
            rintro e w13 ⟨rfl, ⟨n13, hw13⟩⟩
            replace HB3 : Aside0 (Below w.heap.size w w13) := ⟨by rw [hw13]; exact pw_below_drewN HB3.out n13⟩
            clear HO5 HO6 hw13
            go_wp2_with fail
            refine (union_calls none 0 [] w13 (Kd.C_nil _ _) (by simp)).mono ?_
            rintro e w14 ⟨v7, rfl, ho7, hb7⟩
            have e7 : uniL (sortL ([] : List (List W)).flatten) = [] := by
              rw [List.flatten_nil, sortL_nil]; rfl
            rw [e7] at ho7
            obtain ⟨A7, c7, rfl⟩ := Kd.R_slice ho7
            replace HB3 := Aside0.mk (below_step HB3.out hb7)
            clear hb7 ho7 e7
            go_wp2_with fail
            refine (awake_calls _).mono ?_
            rintro e w15 ⟨rfl, hb15⟩
            replace HB3 := Aside0.mk (below_step HB3.out hb15)
            clear hb15
            go_wp2_with fail
            go_ret
            exact ⟨rfl, HB3.out⟩
          · have hib : ¬ (i : Int) < (a.length : Int) := by omega
            clear hin
            have HA' := Aside0.mk (Kd.C_below HA.out HBL.out)
            obtain ⟨xs, hxs⟩ : ∃ xs, xs = [] ++ a ++ b := ⟨_, rfl⟩
            have hxs2 : xs = a ++ b := hxs
            obtain ⟨u, hu⟩ : ∃ u, u = uniL (sortL xs) := ⟨_, rfl⟩
            have hxl : xs.length ≤ 20 := by rw [hxs2, List.length_append]; omega
            have hul : u.length ≤ 20 := by rw [hu]; exact Nat.le_trans (uniL_length _) (by rw [sortL_length]; exact hxl)
            obtain ⟨K3, hK3⟩ := union_at xs (by omega)
            rw [← hu] at hK3
            obtain ⟨K4, hK4⟩ := wants_at u (by omega)
            have HK3 := Aside0.mk (hK3 K3 (Nat.le_refl _))
            have HK4 := Aside0.mk (hK4 K4 (Nat.le_refl _))
            have HF1 : Aside0 ([a, b].flatten = xs) := ⟨by rw [hxs2]; simp⟩
            have HF2 : Aside0 (uniL (sortL ([b, [], a].flatten)) = u) := ⟨by rw [hu, hxs2, ← union_same]; simp⟩
            have HXS := Aside0.mk hxs
            have HXS2 := Aside0.mk hxs2
            have HU := Aside0.mk hu
            clear hK3 hK4 hxs hxs2 hu
            go_wp2_with (first | ((with_reducible refine gate_builtin (b := .append) (xs := #[.tmp 47, .tmp 48]) rfl ?_); at_builtin; refine Kd.R_append_rows k31 (w0 := w) w.heap.size rfl (.tmp 47) (.tmp 48) 22 31 (.agg #[(.string ⟨#[]⟩), (.bool false)]) 24 rfl Try.underlying22 info31 rfl (by decide) (by omega) (.slice (some ⟨wr.heap.size, 0, none⟩) 0 0) [] a A a.length ca (fun _ => True) (fun _ => False) rfl rfl (R_room k31 31 _ w.heap.size wr.heap.size 0 #[] (blk_new wr _) HBL.out.size (Nat.zero_le _) rfl) (Kd.C_alloc HA'.out _) (fun x cs h => KM _ _ _ x cs h) (fun _ hk => hk.elim) (fun _ _ => trivial) (below_alloc HBL.out _) (below_alloc HBL.out _).size (by simp; omega) ?_; intro v1 w6 ho1 hb1 hg_ hat_; clear hg_ hat_; have HO1 := Aside0.mk ho1; have HB1 := Aside0.mk hb1; clear ho1 hb1) | ((with_reducible refine gate_builtin (b := .append) (xs := #[.tmp 49, .tmp 50]) rfl ?_); at_builtin; refine Kd.R_append_rows k31 (w0 := w) w.heap.size rfl (.tmp 49) (.tmp 50) 22 31 (.agg #[(.string ⟨#[]⟩), (.bool false)]) 24 rfl Try.underlying22 info31 rfl (by decide) (by omega) v1 ([] ++ a) b B b.length cb (fun _ => True) (fun _ => False) rfl rfl HO1.out (Kd.C_below HB.out HB1.out) (fun x cs h => KM _ _ _ x cs h) (fun _ hk => hk.elim) (fun _ _ => trivial) HB1.out HB1.out.size (by simp; omega) ?_; intro v2 w7 ho2 hb2 hg_ hat_; clear hg_ hat_; rw [← HXS.out] at ho2; obtain ⟨A2, c2, e2⟩ := Kd.R_slice ho2; subst e2; have HO2 := Aside0.mk ho2; have HB2 := Aside0.mk hb2; clear ho2 hb2))
            refine (union_calls (some ⟨w7.heap.size, 0, none⟩) 2 [a, b] _ (C_of_block (blk_new w7 _) (Reps.one (show (Kd.slice 31 k31).K _ a [.slice A a.length ca] from ⟨A, ca, rfl, hca, Kd.C_alloc (Kd.C_below HA.out HB2.out) _⟩) (Reps.one (show (Kd.slice 31 k31).K _ b [.slice B b.length cb] from ⟨B, cb, rfl, hcb, Kd.C_alloc (Kd.C_below HB.out HB2.out) _⟩) (Reps.none _ _))) (by simp)) (by rw [HF1.out]; exact hxl)).mono ?_
            rintro e w8 ⟨v3, rfl, ho3, hb3⟩
            rw [HF1.out, ← HU.out] at ho3
            obtain ⟨A3, c3, rfl⟩ := Kd.R_slice ho3
            have HB3 := Aside0.mk (below_step (below_alloc HB2.out _) hb3)
            replace HO2 := Aside0.mk (Kd.R_below (Kd.R_alloc HO2.out _) hb3)
            have HO3 := Aside0.mk ho3
            clear hb3 ho3 HB2
            go_wp2_with fail
            refine (affluxlaw22_union.calls K3 A2 c2 xs u w8 (Kd.R_reads' HO2.out).2.2 (Kd.R_reads' HO2.out).2.1 HK3.out).mono ?_
            rintro e w9 ⟨v4, rfl, ho4, hb4⟩
            obtain ⟨A4, c4, rfl⟩ := Kd.R_slice ho4
            replace HB3 := Aside0.mk (below_step HB3.out hb4)
            replace HO2 := Aside0.mk (Kd.R_below HO2.out hb4)
            replace HO3 := Aside0.mk (Kd.R_below HO3.out hb4)
            have HO4 := Aside0.mk ho4
            clear hb4 ho4
            go_wp2_with fail
            refine (affluxlaw22_wants.calls K4 A3 c3 u A4 c4 u true w9 (Kd.R_reads' HO3.out).2.2 (Kd.R_reads' HO3.out).2.1 (Kd.R_reads' HO4.out).2.2 (Kd.R_reads' HO4.out).2.1 HK4.out).mono ?_
            rintro e w10 ⟨rfl, ⟨n10, hw10⟩⟩
            replace HB3 : Aside0 (Below w.heap.size w w10) := ⟨by rw [hw10]; exact pw_below_drewN HB3.out n10⟩
            replace HO2 := Aside0.mk (Kd.R_drewN HO2.out n10)
            rw [← hw10] at HO2
            clear HO3 HO4 hw10
            go_wp2_with fail
            refine (union_calls (some ⟨w10.heap.size, 0, none⟩) 3 [b, [], a] _ (C_of_block (blk_new w10 _) (Reps.one (show (Kd.slice 31 k31).K _ b [.slice B b.length cb] from ⟨B, cb, rfl, hcb, Kd.C_alloc (Kd.C_below HB.out HB3.out) _⟩) (Reps.one (show (Kd.slice 31 k31).K _ [] [.slice none 0 0] from ⟨none, 0, rfl, Nat.le_refl _, Kd.C_nil _ _⟩) (Reps.one (show (Kd.slice 31 k31).K _ a [.slice A a.length ca] from ⟨A, ca, rfl, hca, Kd.C_alloc (Kd.C_below HA.out HB3.out) _⟩) (Reps.none _ _)))) (by simp)) (by simp; omega)).mono ?_
            rintro e w11 ⟨v5, rfl, ho5, hb5⟩
            rw [HF2.out] at ho5
            obtain ⟨A5, c5, rfl⟩ := Kd.R_slice ho5
            replace HB3 := Aside0.mk (below_step (below_alloc HB3.out _) hb5)
            replace HO2 := Aside0.mk (Kd.R_below (Kd.R_alloc HO2.out _) hb5)
            have HO5 := Aside0.mk ho5
            clear hb5 ho5
            go_wp2_with fail
            refine (affluxlaw22_union.calls K3 A2 c2 xs u w11 (Kd.R_reads' HO2.out).2.2 (Kd.R_reads' HO2.out).2.1 HK3.out).mono ?_
            rintro e w12 ⟨v6, rfl, ho6, hb6⟩
            obtain ⟨A6, c6, rfl⟩ := Kd.R_slice ho6
            replace HB3 := Aside0.mk (below_step HB3.out hb6)
            replace HO5 := Aside0.mk (Kd.R_below HO5.out hb6)
            have HO6 := Aside0.mk ho6
            clear hb6 ho6 HO2
            go_wp2_with fail
            refine (affluxlaw22_wants.calls K4 A5 c5 u A6 c6 u true w12 (Kd.R_reads' HO5.out).2.2 (Kd.R_reads' HO5.out).2.1 (Kd.R_reads' HO6.out).2.2 (Kd.R_reads' HO6.out).2.1 HK4.out).mono ?_
            rintro e w13 ⟨rfl, ⟨n13, hw13⟩⟩
            replace HB3 : Aside0 (Below w.heap.size w w13) := ⟨by rw [hw13]; exact pw_below_drewN HB3.out n13⟩
            clear HO5 HO6 hw13
            go_wp2_with fail
            refine (union_calls none 0 [] w13 (Kd.C_nil _ _) (by simp)).mono ?_
            rintro e w14 ⟨v7, rfl, ho7, hb7⟩
            have e7 : uniL (sortL ([] : List (List W)).flatten) = [] := by
              rw [List.flatten_nil, sortL_nil]; rfl
            rw [e7] at ho7
            obtain ⟨A7, c7, rfl⟩ := Kd.R_slice ho7
            replace HB3 := Aside0.mk (below_step HB3.out hb7)
            clear hb7 ho7 e7
            go_wp2_with fail
            refine (awake_calls _).mono ?_
            rintro e w15 ⟨rfl, hb15⟩
            replace HB3 := Aside0.mk (below_step HB3.out hb15)
            clear hb15
            go_wp2_with fail
            go_ret
            exact ⟨rfl, HB3.out⟩
end Go.Proofs.Ytbpadimcnamdpaa.PK
