/- lock: Ask. -/
import Derived.Test.YtbpadimcnamdpaaLkTab
namespace Go.Proofs.Ytbpadimcnamdpaa.PK
open Go.RowKit Go.Proofs.YtbpadimcnamdpaaW.PrintWords Go.Proofs.YtbpadimcnamdpaaW.PrintLast Go.Proofs.YtbpadimcnamdpaaW.PrintMore
/-- All blocks but those in S are as they were. -/
structure Kp (S : Nat → Prop) (w w' : World) : Prop where
  os : w'.os = w.os
  tape : w'.tape = w.tape
  output : w'.output = w.output
  size : w.heap.size ≤ w'.heap.size
  block : ∀ k, k < w.heap.size → ¬ S k → w'.heap[k]? = w.heap[k]?
theorem Kp.of_below {S : Nat → Prop} {w w' : World} (h : Below w.heap.size w w') : Kp S w w' := ⟨h.os, h.tape, h.output, h.size, fun k hk _ => h.block k hk⟩
theorem Kp.trans {S : Nat → Prop} {w w1 w2 : World} (h : Kp S w w1) (k : Kp S w1 w2) : Kp S w w2 :=
  ⟨k.os.trans h.os, k.tape.trans h.tape, k.output.trans h.output, Nat.le_trans h.size k.size, fun i hi hn => (k.block i (Nat.lt_of_lt_of_le hi h.size) hn).trans (h.block i hi hn)⟩
theorem Kp.refl (S : Nat → Prop) (w : World) : Kp S w w := ⟨rfl, rfl, rfl, Nat.le_refl _, fun _ _ _ => rfl⟩
theorem Kp.of_grown {S : Nat → Prop} {w w' : World} {row : Option Nat} (h : w.grownBy w' row) (hr : ∀ k, row = some k → S k) : Kp S w w' :=
  ⟨h.os, h.tape, h.output, h.size, fun k hk hn => h.block k hk (fun e => hn (hr k e.symm))⟩
theorem Kp.of_set {S : Nat → Prop} {w : World} {g j : Nat} {v : Value} (hg : S g) : Kp S w (w.setCell ⟨g, j, none⟩ v) := by
  refine ⟨rfl, rfl, rfl, ?_, fun k hk hn => Below.heap_setCell w ⟨g, j, none⟩ v k (fun e => hn (by rw [e]; exact hg))⟩
  show _ ≤ (Array.modify _ _ _).size
  rw [Array.size_modify]
  exact Nat.le_refl _
theorem info61 : (Try.prog.info? 61).map (fun i => (i.zero, i.size, i.bytes)) = some (some (.agg #[.slice none 0 0, .int .i64 0, .bool false]), 3, 40) := by kernel_rfl
theorem C_lit {W1 : World} {b t : Nat} {A : Option Addr} {c : Nat} {ws : List W} (hb : W1.heap[b]? = some (.cells #[.slice A ws.length c] t (0, 0))) (hc : ws.length ≤ c) (hW : Kd.C k31 W1 A ws.length ws) : Kd.C (Kd.slice 31 k31) W1 (some ⟨b, 0, none⟩) [ws].length [ws] := by
  refine ⟨rfl, by simp, fun _ => ⟨⟨b, 0, none⟩, rfl, fun j p hj => ?_⟩⟩
  have hj0 : j = 0 := by
    have := (List.getElem?_eq_some_iff.1 hj).1
    simpa using this
  subst hj0
  obtain rfl : ws = p := by simpa using hj
  refine ⟨[.slice A ws.length c], rfl, ⟨A, c, rfl, hc, hW⟩, fun i u hu => ?_⟩
  have hi0 : i = 0 := by
    have := (List.getElem?_eq_some_iff.1 hu).1
    simpa using this
  subst hi0
  obtain rfl : Value.slice A ws.length c = u := by simpa using hu
  have := blk_cell hb 0
  simpa [add_plain] using this
theorem flat_one (ws : List W) : [ws].flatten = ws := by simp
def askCode (l : List Ask) (id : Int) : Int := if id < 0 then 1 else if 0 ≤ findI l id then 9 else 0
def askL (l : List Ask) (id : Int) (ws : List W) : List Ask := if askCode l id = 0 then l ++ [⟨⟨uniL (sortL ws)⟩, id, false⟩] else l
/-- What stands behind the call of Union, within Ask. -/
structure AtU (w1 w5 : World) (base g : Nat) (S : Nat → Prop) (l : List Ask) (A0 : Option Addr) (c0 : Nat) (A5 : Option Addr) (c5 : Nat) (us : List W) (id : Int) : Prop where
  below : Below w1.heap.size w1 w5
  row : Kd.R k61 61 w5 base (fun k => S k ∧ k ≠ g) (.slice A0 l.length c0) l
  new : k61.M w5 base (fun k => w1.heap.size + 1 ≤ k) ⟨⟨us⟩, id, false⟩ [.slice A5 us.length c5, .int .i64 id, .bool false]
  okp : ∀ k, w1.heap.size + 1 ≤ k → (S k ∧ k ≠ g) ∧ some k ≠ (Value.slice A0 l.length c0).ownBlock
  fresh : ∀ k, w5.heap.size ≤ k → S k ∧ k ≠ g
  base_le : base ≤ w5.heap.size
  blk : w5.heap[g]? = some (.cells #[.slice A0 l.length c0] 52 (0, 0))
  glt : g < w5.heap.size
theorem AtU.mk' {w1 w5 : World} {base g : Nat} {S : Nat → Prop} {l : List Ask} {A0 : Option Addr} {c0 : Nat} {A5 : Option Addr} {c5 : Nat} {us : List W} {id : Int} {o : Obj}
    (hb1 : base ≤ w1.heap.size) (hg : g < w1.heap.size) (hfr : ∀ k, w1.heap.size ≤ k → S k) (hrow : Kd.R k61 61 w1 base (fun k => S k ∧ k ≠ g) (.slice A0 l.length c0) l) (hblk : w1.heap[g]? = some (.cells #[.slice A0 l.length c0] 52 (0, 0)))
    (ho5 : Kd.R k31 31 w5 (w1.heap.size + 1) (fun _ => True) (.slice A5 us.length c5) us) (hb5 : Below (w1.heap.size + 1) ((w1.alloc o).drew) w5) : AtU w1 w5 base g S l A0 c0 A5 c5 us id := by
  have hb : Below w1.heap.size w1 w5 := (below_drew (below_alloc (Below.refl _ _) o)).trans ⟨hb5.os, hb5.tape, hb5.output, hb5.size, fun k hk => hb5.block k (by omega)⟩
  have hl := hb.size
  exact ⟨hb, Kd.R_below hrow hb, k61_mkM _ _ _ ⟨⟨us⟩, id, false⟩ (Kd.R_lower (Kd.R_mono (Kd.R_bound ho5) (fun k hk => hk.2.1)) (by omega)),
    fun k hk => ⟨⟨hfr k (by omega), by omega⟩, fun he => absurd (Kd.R_lt hrow k he.symm) (by omega)⟩,
    fun k hk => ⟨hfr k (by omega), by omega⟩, by omega, (hb.block g hg).trans hblk, by omega⟩
set_option maxHeartbeats 2000000 in
set_option maxRecDepth 100000 in
theorem ask_calls (base g : Nat) (S : Nat → Prop) (l : List Ask) (id : Int) (A : Option Addr) (c : Nat) (ws : List W) (w : World) (hT : TabAt w base S g l) (hW : Kd.C k31 w A ws.length ws) (hc : ws.length ≤ c) (hws : ws.length ≤ 20) (hsm : l.length ≤ 1073741824) (hfr : ∀ k, w.heap.size ≤ k → S k) :
    Calls Try.prog 21 #[.pointer (some ⟨g, 0, none⟩), .int .i64 id, .slice A ws.length c] w fun e w' => e = .returned (.int .i64 (askCode l id)) ∧ TabAt w' base S g (askL l id ws) ∧ Kp S w w' := by
  have HT := Aside0.mk hT
  have HW := Aside0.mk hW
  have HFR := Aside0.mk hfr
  obtain ⟨A0, c0, hblk, hrow⟩ := hT.row
  have hcell : w.cell? ⟨g, 0, none⟩ = some (.slice A0 l.length c0) := (blk_cell hblk 0).trans rfl
  have HC := Aside0.mk (Kd.R_reads' hrow).2.2
  have HBLK := Aside0.mk hblk
  have HROW := Aside0.mk hrow
  clear hT hW hblk hrow hfr
  by_cases hneg : id < 0
  · have HA : Aside0 (askCode l id = 1) := ⟨by unfold askCode; rw [if_pos hneg]⟩
    go_enter Try.func21, Try.ntmps21
    go_wp2
    go_ret
    exact ⟨by rw [HA.out]; rfl, by unfold askL; rw [HA.out, if_neg (by decide)]; exact HT.out, Kp.refl _ _⟩
  · obtain ⟨r, hr⟩ : ∃ r, r = findI l id := ⟨_, rfl⟩
    have HR := Aside0.mk hr
    clear hr
    go_enter Try.func21, Try.ntmps21
    go_wp2_with fail
    refine (find_calls g id r A0 c0 l w hcell HC.out HR).mono ?_
    rintro e w1 ⟨rfl, hb1⟩
    have HB1 := Aside0.mk hb1
    by_cases hpos : 0 ≤ r
    · have HA : Aside0 (askCode l id = 9) := ⟨by unfold askCode; rw [if_neg (by omega), if_pos (by rw [← HR.out]; exact hpos)]⟩
      have hge : r ≥ 0 := hpos
      clear hb1
      go_wp2_with fail
      go_ret
      exact ⟨by rw [HA.out]; rfl, by unfold askL; rw [HA.out, if_neg (by decide)]; exact HT.out.below HB1.out, Kp.of_below HB1.out⟩
    · have HA : Aside0 (askCode l id = 0) := ⟨by unfold askCode; rw [if_neg (by omega), if_neg (by rw [← HR.out]; exact hpos)]⟩
      have hge : ¬ r ≥ 0 := hpos
      have hcell1 := (hb1.cell (p := ⟨g, 0, none⟩) HT.out.lt).trans hcell
      have hlt1 := Nat.lt_of_lt_of_le HT.out.lt hb1.size
      replace HBLK := Aside0.mk ((hb1.block g HT.out.lt).trans HBLK.out)
      replace HROW := Aside0.mk (Kd.R_below HROW.out hb1)
      replace HW := Aside0.mk (Kd.C_below HW.out hb1)
      have hbase1 : base ≤ w1.heap.size := Nat.le_trans HT.out.ge (Nat.le_of_lt hlt1)
      have HFR1 : Aside0 (∀ k, w1.heap.size ≤ k → S k) := ⟨fun k hk => HFR.out k (Nat.le_trans hb1.size hk)⟩
      clear hb1 hcell
      go_wp2_with fail
      have hU : Calls Try.prog 11 #[.slice (some ⟨w1.heap.size, 0, none⟩) 1 1] ((w1.alloc (.cells #[.slice A ws.length c] 22)).drew) fun e w' => ∃ v, e = .returned v ∧ Kd.R k31 31 w' (w1.heap.size + 1) (fun _ => True) v (uniL (sortL ws)) ∧ Below (w1.heap.size + 1) ((w1.alloc (.cells #[.slice A ws.length c] 22)).drew) w' := by
        have h := union_calls (some ⟨w1.heap.size, 0, none⟩) 1 [ws] ((w1.alloc (.cells #[.slice A ws.length c] 22)).drew) (C_lit (t := 22) (W1 := (w1.alloc (.cells #[.slice A ws.length c] 22)).drew) (blk_new w1 _) hc (Kd.C_drew (Kd.C_alloc HW.out _))) (by rw [flat_one]; exact hws)
        rw [flat_one] at h
        have hs : ((w1.alloc (.cells #[.slice A ws.length c] 22)).drew).heap.size = w1.heap.size + 1 := by show (w1.heap.push _).size = _; rw [Array.size_push]
        rw [hs] at h
        exact h
      have HU := Aside0.mk hU
      clear hU
      go_region_law (first | (refine Kd.R_append_step k61 (w0 := w5) base (by rfl) (.tmp 23) (.tmp 30) 50 61 (.agg #[.slice none 0 0, .int .i64 0, .bool false]) 40 rfl Try.underlying50 info61 rfl (by decide) (by omega) (.slice A0 l.length c0) l ⟨⟨uniL (sortL ws)⟩, id, false⟩ [.slice A5 (uniL (sortL ws)).length c5, .int .i64 id, .bool false] (fun k => S k ∧ k ≠ g) (fun k => w1.heap.size + 1 ≤ k) (by first | rfl | simp [Act.eval, Act.put]) (by first | rfl | simp [Act.eval, Act.put]) HAT.out.new HAT.out.okp HAT.out.fresh HAT.out.row (Below.refl _ _) HAT.out.base_le (by omega) ?_; intro v7 w7 ho7 hb7 hg7 hat7; clear hat7; have hblk7 := (hg7.block g HAT.out.glt (fun he => (HAT.out.row.1 g he.symm).2 rfl)).trans HAT.out.blk; have hc7 : w7.cell? ⟨g, 0, none⟩ = some (.slice A0 l.length c0) := blk_cell hblk7 0; have hf7 : w7.frozen? ⟨g, 0, none⟩ = false := blk_frozen hblk7 0; obtain ⟨A7, c7, e7⟩ := Kd.R_slice ho7; subst e7; have HO7 := Aside0.mk ho7; have HG7 := Aside0.mk hg7; have HBK7 := Aside0.mk hblk7; clear ho7 hb7 hg7 hblk7) | (go_simp; go_at_call 11; refine HU.out.mono ?_; rintro e w5 ⟨v5, rfl, ho5, hb5⟩; obtain ⟨A5, c5, e5⟩ := Kd.R_slice ho5; subst e5; have HAT := Aside0.mk (AtU.mk' (id := id) hbase1 hlt1 HFR1.out HROW.out HBLK.out ho5 hb5); have hc5 : w5.cell? ⟨g, 0, none⟩ = some (.slice A0 l.length c0) := blk_cell HAT.out.blk 0; have hl5 : g < w5.heap.size := HAT.out.glt; clear ho5 hb5))
      all_goals
        go_wp2
        go_ret
        have hl8 : (l ++ [(⟨⟨uniL (sortL ws)⟩, id, false⟩ : Ask)]).length = l.length + 1 := by simp
        refine ⟨by rw [HA.out]; rfl, ?_, (Kp.of_below HB1.out).trans ((Kp.of_below HAT.out.below).trans ((Kp.of_grown HG7.out (fun k hk => (HAT.out.row.1 k hk).1)).trans (Kp.of_set HT.out.own)))⟩
        unfold askL
        rw [HA.out, if_pos rfl]
        refine ⟨HT.out.own, HT.out.ge, A7, c7, ?_, Kd.R_far HO7.out (fun k hk => hk.2) _⟩
        rw [hl8]
        exact blk_put HBK7.out 0 _ rfl
end Go.Proofs.Ytbpadimcnamdpaa.PK
