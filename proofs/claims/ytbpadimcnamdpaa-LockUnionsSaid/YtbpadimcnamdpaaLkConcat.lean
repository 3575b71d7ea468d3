/- lock: lists of wants, one behind the other, in a row of their own. -/
import Derived.Test.YtbpadimcnamdpaaLkWho
import Derived.Test.YtbpadimcnamdpaaLkLay
namespace Go.Proofs.Ytbpadimcnamdpaa.PK
open Go.RowKit Go.Proofs.YtbpadimcnamdpaaW.PrintWords Go.Proofs.YtbpadimcnamdpaaW.PrintLast Go.Proofs.YtbpadimcnamdpaaW.PrintMore
/-- A row with room. -/
theorem R_room {α : Type} (d : Kd α) (e : Nat) (w : World) (base g cap : Nat) (cs : Array Value) (hg : w.heap[g]? = some (.cells cs e (0, 0))) (hb : base ≤ g) (hc : cap ≤ maxLen) (hs : cs.size = cap * d.sz) : d.R e w base (fun _ => True) (.slice (some ⟨g, 0, none⟩) 0 cap) [] :=
  ⟨fun _ _ => trivial, [], ⟨by simp, .inr ⟨g, cap, cs, rfl, hb, hg, Nat.zero_le _, hc, hs, by simp⟩⟩, Reps.none _ _⟩
set_option maxRecDepth 100000 in
theorem grow_calls (n : Nat) (w : World) (hn : n ≤ 1099511627776) :
    Calls Try.prog 37 #[.slice none 0 0, .int .i64 n] w fun e w' => ∃ v, e = .returned v ∧ Kd.R k31 31 w' w.heap.size (fun _ => True) v [] ∧ Below w.heap.size w w' := by
  by_cases h0 : n = 0
  · subst h0
    refine (Any8.slices_Grow_room Try.growW none 0 0 0 w (by omega) (by omega) (by omega) (by omega)).mono ?_
    rintro e w1 ⟨rfl, rfl⟩
    exact ⟨_, rfl, Kd.R_nil _ _ _ _ _, Below.refl _ _⟩
  · obtain ⟨i0, hi, hzz⟩ := Option.map_eq_some_iff.1 info31
    simp only [Prod.mk.injEq] at hzz
    obtain ⟨hz0, hz1, hz2⟩ := hzz
    refine (Any8.slices_Grow_grow Try.growW i0 _ hi hz0 (by omega) none 0 0 n [] w (by omega) (by omega) (by rw [hz2]; omega) (by omega) (by simp) (fun _ => rfl) (fun a h => by cases h)).mono ?_
    rintro e w1 ⟨rfl, rfl⟩
    refine ⟨_, rfl, ?_, (Below.refl _ _).drew.alloc (Nat.le_refl _) _⟩
    have hge := grownCap_ge w (0 + n) 0 (Try.growW_ren.t 25)
    have hle := grownCap_le_maxLen w (0 + n) 0 (Try.growW_ren.t 25) (by unfold maxLen; omega)
    refine R_room k31 31 _ _ w.heap.size _ _ (blk_new w.drew _) (Nat.le_refl _) hle ?_
    rw [Array.size_append, Array.size_append, size_zeroCells, size_zeroCells]
    show 0 + (0 + n - 0) * 2 + (_ - (0 + n)) * 2 = _ * 2
    omega
theorem take_flat (ll : List (List W)) (i : Nat) (h : i < ll.length) : (ll.take (i + 1)).flatten = (ll.take i).flatten ++ rd_L5 ll (i : Int) := by
  rw [List.take_succ_eq_append_getElem h, List.flatten_append]
  simp [rd_L5, List.getD, h]
theorem take_flat_le (ll : List (List W)) (i : Nat) : ((ll.take i).flatten).length ≤ (ll.flatten).length := by
  conv => rhs; rw [← List.take_append_drop i ll]
  rw [List.flatten_append, List.length_append]
  omega
theorem KM (W : World) (base : Nat) (ok : Nat → Prop) (x : S31) (cs : List Value) (h : k31.K W x cs) : k31.M W base ok x cs := by
  rw [k31_open h]
  exact k31_mkM W base ok x
set_option maxHeartbeats 1000000 in
set_option maxRecDepth 100000 in
theorem concat_calls (A : Option Addr) (c : Nat) (ll : List (List W)) (w : World) (hC : Kd.C (Kd.slice 31 k31) w A ll.length ll) (hsm : (ll.flatten).length ≤ 1073741824) :
    Calls Try.prog 22 #[.slice A ll.length c] w fun e w' => ∃ v, e = .returned v ∧ Kd.R k31 31 w' w.heap.size (fun _ => True) v ll.flatten ∧ Below w.heap.size w w' := by
  have HC := Aside0.mk hC
  have hmax := Kd.C_max hC
  clear hC
  go_enter Try.func22, Try.ntmps22
  go_wp2
  go_loopg [11, 3] (ll.length + 1) (fun kq v11 v3 w' => ∃ i n : Nat, v11 = .int .i64 i ∧ v3 = .int .i64 n ∧ Aside0 (i + kq = ll.length + 1) ∧ i ≤ ll.length ∧ n ≤ 1073741824 ∧ Aside0 (n = ((ll.take i).flatten).length) ∧ w = w')
  case atStart => exact ⟨0, 0, rfl, rfl, ⟨by omega⟩, Nat.zero_le _, by omega, ⟨rfl⟩, rfl⟩
  case round =>
    obtain ⟨i, n, rfl, rfl, HK, hi, hn, HN, rfl⟩ := hrel
    cases gk with
    | zero => exact absurd HK.out (by omega)
    | succ k1 =>
      by_cases hil : i < ll.length
      · obtain ⟨ad, A1, c1, e0, hx, hl1, hi1⟩ := at_L5 HC.out (i : Int) (by omega) (by omega)
        cases e0
        clear hl1 hi1
        simp only [Int.toNat_natCast] at hx
        have HF := Aside0.mk (take_flat ll i hil)
        have hle := take_flat_le ll (i + 1)
        rw [HF.out, List.length_append, ← HN.out] at hle
        generalize rd_L5 ll (i : Int) = x at hx HF hle
        have hn2 : n + x.length ≤ 1073741824 := by omega
        clear hle
        go_wp2
        go_roundg k1
        case measure => have := HK.out; omega
        case rel => exact ⟨i + 1, n + x.length, by go_num, by go_num, ⟨by have := HK.out; omega⟩, by omega, hn2, ⟨by rw [HF.out, List.length_append, ← HN.out]⟩, rfl⟩
      · have HN2 : Aside0 (n = (ll.flatten).length) := ⟨by rw [HN.out, List.take_of_length_le (by omega)]⟩
        clear HN
        go_wp2_with fail
        refine (grow_calls n w (by omega)).mono ?_
        rintro e w1 ⟨v1, rfl, ho1, hb1⟩
        have HO1 := Aside0.mk ho1
        have HB1 := Aside0.mk hb1
        clear ho1 hb1
        go_wp2_with fail
        clear hi hil HK
        go_loopg [27, 6] (ll.length + 1) (fun kq v27 v6 w' => ∃ i : Nat, v27 = .int .i64 i ∧ Aside0 (i + kq = ll.length + 1) ∧ i ≤ ll.length ∧ Aside0 (Kd.R k31 31 w' w.heap.size (fun _ => True) v6 (ll.take i).flatten) ∧ Aside0 (Below w.heap.size w w'))
        case atStart => exact ⟨0, rfl, ⟨by omega⟩, Nat.zero_le _, HO1, HB1⟩
        case round =>
          clear HO1 HB1
          obtain ⟨i, rfl, HK, hi, HO, HB⟩ := hrel
          cases gk with
          | zero => exact absurd HK.out (by omega)
          | succ k2 =>
            by_cases hil : i < ll.length
            · obtain ⟨ad, A1, c1, e0, hx, hl1, hi1⟩ := at_L5 (Kd.C_below HC.out HB.out) (i : Int) (by omega) (by omega)
              cases e0
              simp only [Int.toNat_natCast] at hx
              have HF := Aside0.mk (take_flat ll i hil)
              have HLE := Aside0.mk (take_flat_le ll (i + 1))
              rw [HF.out, List.length_append] at HLE
              have HI := Aside0.mk hi1
              clear hl1 hi1
              generalize rd_L5 ll (i : Int) = x at hx HF HLE HI
              go_wp2_with (first | ((with_reducible refine gate_builtin (b := .append) (xs := #[.tmp 31, .tmp 32]) rfl ?_); at_builtin; refine Kd.R_append_rows k31 (w0 := w) w.heap.size rfl (.tmp 31) (.tmp 32) 22 31 (.agg #[(.string ⟨#[]⟩), (.bool false)]) 24 rfl Try.underlying22 info31 rfl (by decide) (by omega) u6 (ll.take i).flatten x A1 x.length c1 (fun _ => True) (fun _ => False) rfl rfl HO.out HI.out (fun x cs h => KM _ _ _ x cs h) (fun _ hk => hk.elim) (fun _ _ => trivial) HB.out HB.out.size ?aL ?_; (case aL => have := HLE.out; omega); intro v2 w6 ho hb hg_ hat_; clear hg_ hat_; rw [← HF.out] at ho; have HO6 := Aside0.mk ho; have HB6 := Aside0.mk hb; clear ho hb))
              go_roundg k2
              case measure => have := HK.out; omega
              case rel => exact ⟨i + 1, by go_num, ⟨by have := HK.out; omega⟩, by omega, HO6, HB6⟩
            · have HO2 : Aside0 (Kd.R k31 31 wr w.heap.size (fun _ => True) u6 ll.flatten) := ⟨by have := HO.out; rwa [List.take_of_length_le (by omega)] at this⟩
              go_wp2
              go_ret
              exact ⟨_, rfl, HO2.out, HB.out⟩
end Go.Proofs.Ytbpadimcnamdpaa.PK
