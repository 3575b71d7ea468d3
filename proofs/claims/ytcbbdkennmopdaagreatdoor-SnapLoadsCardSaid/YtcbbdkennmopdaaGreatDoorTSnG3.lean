/- Texts of this claim, joined: Opens, Row, SnSweep, SnLoadsP, PureOpenB, SnRef, SnMarkR, SnNone, SnLoads. -/
import Derived.Test.YtcbbdkennmopdaaGreatDoorTWWords
import Derived.Test.YtcbbdkennmopdaaGreatDoorTWLast
import Derived.Deep.Slices
import Derived.ProofKit
import Derived.Carry
import Derived.KernelRfl
import Derived.Test.YtcbbdkennmopdaaGreatDoorRows
import Derived.Test.YtcbbdkennmopdaaGreatDoorTSumWalk
import Derived.LaidMore
import Derived.LaidHandle
import Derived.MakeChecks
import Derived.OpenShut
import Derived.Stop.Joined
import Derived.Test.YtcbbdkennmopdaaGreatDoorTSnB2
import Derived.Test.YtcbbdkennmopdaaGreatDoorTSnB1
import Derived.Test.YtcbbdkennmopdaaGreatDoorTPBx3
import Derived.Test.YtcbbdkennmopdaaGreatDoorTPBx4
import Derived.Test.YtcbbdkennmopdaaGreatDoorTPBx5
import Derived.Deep.QuietTactic
import Derived.BigQuiet
import Derived.Deep.DeepCutAuto
set_option linter.unusedSimpArgs false
set_option linter.unusedVariables false
/- What an argument reads as, opened by its type: whole numbers, truths, texts, slices, structs, as deep as the type goes. -/
namespace Go.Proofs.YtcbbdkennmopdaaGreatDoor
open Go.RowKit Go.Proofs.YtcbbdkennmopdaaGreatDoorW.PrintWords
namespace Opens
/-- Cells of type t that can be read as data hold a value of kind d, and it is good. -/
structure Opn (P : Program) (t : TypeId) {α : Type} (d : Kd α) (good : α → Prop) : Prop where
  size : P.cellsOf t = d.sz
  op : ∀ {H : Type} (enc : TypeId × Value → H) (W : World) (fuel : Nat) (cs : List Value) (y : DataW H × List MemPlace), DataW.trod enc P W 0 (fun _ => true) true fuel t cs = some y → ∃ x, d.K W x cs ∧ good x
theorem opn_int {P : Program} {t : TypeId} {k : IntKind} (ht : P.underlying t = some (.int k)) (hc : P.cellsOf t = 1) : Opn P t (Kd.int k) (fun n => (Lit.int k n).wf = true) := by
  refine ⟨hc, fun enc W fuel cs y h => ?_⟩
  cases fuel with
  | zero => simp [DataW.trod] at h
  | succ n =>
    unfold DataW.trod at h
    rw [ht] at h
    split at h <;> simp_all
    obtain ⟨⟨rfl, hw⟩, _⟩ := h
    exact ⟨_, rfl, hw⟩
theorem opn_slice {P : Program} {t e : TypeId} {α : Type} {d : Kd α} {good : α → Prop} (ht : P.underlying t = some (.slice e)) (hc : P.cellsOf t = 1) (h : Opn P e d good) : Opn P t (Kd.slice e d) (fun xs => xs.length ≤ maxLen ∧ ∀ x ∈ xs, good x) := by
  refine ⟨hc, fun enc W fuel cs y hy => ?_⟩
  rcases Go.Deep.open_slice ht hy with ⟨rfl, _⟩ | ⟨a, len, cap, m, n, D, Pl, rfl, _, hl, hcap, hm, _, hel⟩
  · exact ⟨[], ⟨none, 0, rfl, Nat.le_refl _, rfl, Nat.zero_le _, fun h0 => absurd h0 (Nat.lt_irrefl _)⟩, Nat.zero_le _, by simp⟩
  have hmm : m = cap := by rw [hm]; rfl
  subst hmm
  have hx : ∀ i, i < len → ∃ x, (∃ cs', W.cells? 0 (a.add (i * P.cellsOf e)) (P.cellsOf e) = some cs' ∧ d.K W x cs') ∧ good x := fun i hi => by
    obtain ⟨cs', h1, h2⟩ := hel i (by omega)
    obtain ⟨x, hk, hg⟩ := h.op enc W n cs' _ h2
    exact ⟨x, ⟨cs', h1, hk⟩, hg⟩
  have hall : ∀ k, k ≤ len → ∃ xs : List α, xs.length = k ∧ (∀ (j : Nat) p, xs[j]? = some p → ∃ cs', W.cells? 0 (a.add (j * P.cellsOf e)) (P.cellsOf e) = some cs' ∧ d.K W p cs') ∧ ∀ x ∈ xs, good x := by
    intro k
    induction k with
    | zero => intro _; exact ⟨[], rfl, by simp, by simp⟩
    | succ k ih =>
      intro hk
      obtain ⟨xs, hlen, hcells, hgood⟩ := ih (by omega)
      obtain ⟨x, hxk, hxg⟩ := hx k (by omega)
      refine ⟨xs ++ [x], by simp [hlen], fun j p hj => ?_, fun z hz => ?_⟩
      · by_cases hjk : j < xs.length
        · rw [List.getElem?_append_left hjk] at hj
          exact hcells j p hj
        · have hje : j = k := by
            have := (List.getElem?_eq_some_iff.1 hj).1
            simp at this; omega
          subst hje
          rw [List.getElem?_append_right (by omega), hlen, Nat.sub_self] at hj
          obtain rfl : x = p := by simpa using hj
          exact hxk
      · rcases List.mem_append.1 hz with hz | hz
        · exact hgood z hz
        · rw [List.mem_singleton.1 hz]; exact hxg
  obtain ⟨xs, hlen, hcells, hgood⟩ := hall len (Nat.le_refl _)
  subst hlen
  refine ⟨xs, ⟨some a, m, rfl, hl, rfl, ?_, fun h0 => ⟨a, rfl, fun j p hj => ?_⟩⟩, by omega, hgood⟩
  · unfold maxLen at hcap; omega
  · obtain ⟨cs', h1, hk⟩ := hcells j p hj
    rw [h.size] at h1
    obtain ⟨_, hlen, hget⟩ := World.cells?_some h1
    refine ⟨cs', d.K_len hk, hk, fun i u hu => ?_⟩
    have hi : i < d.sz := by rw [← hlen]; exact (List.getElem?_eq_some_iff.1 hu).1
    have := hget i hi
    rw [hu, add_add] at this
    exact this
/-- Fields, the first of which begins at cell o. -/
structure OpnF (P : Program) (fs : List Field) (o : Nat) {α : Type} (d : Kd α) (good : α → Prop) : Prop where
  op : ∀ {H : Type} (enc : TypeId × Value → H) (W : World) (fuel : Nat) (cs : List Value) (ys : List (DataW H × List MemPlace)), cs.length = o + d.sz → (fs.mapM fun f => DataW.trod enc P W 0 (fun _ => true) true fuel f.type ((cs.drop f.offset).take (P.cellsOf f.type))) = some ys → ∃ x, d.K W x (cs.drop o) ∧ good x
/-- An argument, opened. -/
theorem Opn.arg {P : Program} {t : TypeId} {α : Type} {d : Kd α} {good : α → Prop} (h : Opn P t d good) {H : Type} {enc : TypeId × Value → H} {W : World} {v : Value} {y : DataW H} {ps : List MemPlace} (hv : DataW.Trod enc P W 0 (fun _ => true) true t v y ps) : ∃ x, d.K W x v.cells.toList ∧ good x := by
  obtain ⟨fuel, hf⟩ := hv
  exact h.op enc W fuel _ _ hf
/-- A slice that came in. -/
theorem slice_arg {P : Program} {t e : TypeId} {α : Type} {d : Kd α} {good : List α → Prop} (ht : P.underlying t = some (.slice e)) (h : Opn P t (Kd.slice e d) good) {H : Type} {enc : TypeId × Value → H} {W : World} {base : Nat} {v : Value} {y : DataW H} {ps : List MemPlace} (hv : Value.okWide P W .any base t v) (hd : DataW.Trod enc P W 0 (fun _ => true) true t v y ps) : ∃ A c xs, v = .slice A xs.length c ∧ xs.length ≤ c ∧ Kd.C d W A xs.length xs ∧ good xs := by
  obtain ⟨A, len, cap, rfl⟩ := Go.WideShapes.okWide_slice ht hv
  obtain ⟨xs, ⟨A', c', hcs, hl, hC⟩, hg⟩ := h.arg hd
  simp only [Value.cells, List.cons.injEq, Value.slice.injEq, and_true] at hcs
  obtain ⟨rfl, rfl, rfl⟩ := hcs
  exact ⟨A, cap, xs, rfl, hl, hC, hg⟩
/-- What nothing has touched reads as it did: all arguments at once. -/
theorem trodAll_below {H : Type} {enc : TypeId × Value → H} {P : Program} (hl : laidOutB P = true) {W W' : World} (hb : Below W.heap.size W W') : ∀ (ts : List TypeId) (vs : List Value) (ds : List (DataW H)) (ps : List MemPlace), (∀ t ∈ ts, P.readableRec t = true ∧ t < P.types.size) →
    DataW.TrodAll enc P W 0 (fun _ => true) true ts vs ds ps → (∀ x ∈ ps, x.block < W.heap.size) → DataW.TrodAll enc P W' 0 (fun b => decide (b < W.heap.size)) true ts vs ds ps
  | [], [], [], _, _, h, _ => h
  | t :: ts, v :: vs, d :: ds, ps, ht, h, hlt => by
    obtain ⟨p, q, h1, h2, rfl⟩ := h
    refine ⟨p, q, Below.trod hl (ht t List.mem_cons_self).1 (ht t List.mem_cons_self).2 h1 hb (fun x hx => hlt x (List.mem_append_left _ hx)), ?_, rfl⟩
    exact trodAll_below hl hb ts vs ds q (fun t' h' => ht t' (List.mem_cons_of_mem _ h')) h2 (fun x hx => hlt x (List.mem_append_right _ hx))
theorem trodAll_lt {H : Type} {enc : TypeId × Value → H} {P : Program} {W : World} : ∀ (ts : List TypeId) (vs : List Value) (ds : List (DataW H)) (ps : List MemPlace), DataW.TrodAll enc P W 0 (fun _ => true) true ts vs ds ps → ∀ x ∈ ps, x.block < W.heap.size
  | [], [], [], _, h, x, hx => by rw [show _ = [] from h] at hx; cases hx
  | t :: ts, v :: vs, d :: ds, ps, h, x, hx => by
    obtain ⟨p, q, ⟨fuel, h1⟩, h2, rfl⟩ := h
    rcases List.mem_append.1 hx with hx | hx
    · exact DataW.trod_lt fuel _ _ _ h1 x hx
    · exact trodAll_lt ts vs ds q h2 x hx
end Opens
end Go.Proofs.YtcbbdkennmopdaaGreatDoor
/- From a law's walk to its row: whatever the arguments' types. -/
namespace Go.Proofs.YtcbbdkennmopdaaGreatDoor
open Go.ChangeShapes Go.WideShapes Go.ChangeAt Go.RowKit
theorem ownKnobNone : ownKnob Tryz.prog.godebug = none := by kernel_rfl
theorem laidOutProg : laidOutB Tryz.prog = true := by kernel_rfl
/-- What a law is answered: true, the arguments as they were. -/
theorem post_true {H : Type} {enc : TypeId × Value → H} {fn : Func} {spec : ChangeSpec} {W W' : World} {args : Array Value} {ds gs : List (DataW H)} {before : List MemPlace} (tb : TypeId)
    (hvars : spec.vars = []) (hres : fn.resultTypes = #[tb]) (htb : Tryz.prog.underlying tb = some .bool)
    (hfn : spec.fn H (ds ++ gs) = { results := [.lit (.bool true)], args := ds })
    (hread : (fn.params.toList.all fun t => Tryz.prog.readableRec t && decide (t < Tryz.prog.types.size)) = true)
    (hW : DataW.Whole enc Tryz.prog fn.params.toList spec.vars false W args.toList ds gs before) (hb : Below W.heap.size W W') :
    spec.post enc Tryz.prog fn false true false false W args (.bool true) W' := by
  have hW' := hW
  obtain ⟨p, q, hA, hV, _, _, _⟩ := hW
  rw [hvars] at hV
  obtain ⟨rfl, rfl⟩ := trodVars_none hV
  have hread' : ∀ t ∈ fn.params.toList, Tryz.prog.readableRec t = true ∧ t < Tryz.prog.types.size := fun t ht => by
    have := List.all_eq_true.1 hread t ht
    simpa using this
  refine ⟨ds, [], before, [], p, [], hW', ?_, ?_, ?_, hb.frame _, fun h => by cases h⟩
  · rw [hfn, hres]
    exact trodAll_mk1 (shut_bool htb _)
  · rw [hfn]
    exact Opens.trodAll_below laidOutProg hb _ _ _ _ hread' hA (Opens.trodAll_lt _ _ _ _ hA)
  · rw [hfn, hvars]; rfl
/-- The listed table, where the program keeps it. -/
theorem tab_of_laid {W : World} (h : laidMetH Tryz.prog [("afflux/seal.nibbles", Rows.laid_afflux_seal_nibbles)] W) : SumW.Tab W := by
  rw [MakeChecks.laidMetH_plain _ _ _ (by kernel_rfl)] at h
  obtain ⟨ps, ⟨g0, t0, cs0, f0, p0, q0, hg0, ht0, hv0, hd0, _, _⟩, _, _⟩ := h
  obtain rfl := Option.some.inj ((show Tryz.prog.globalNamed "afflux/seal.nibbles" = some 0 by kernel_rfl).symm.trans hg0)
  obtain rfl := Option.some.inj ((show (Tryz.prog.globals[0]?).map (·.type) = some 219 by kernel_rfl).symm.trans ht0)
  obtain ⟨xs, m1, rfl, hx1, hlen, hn3, hel⟩ := DataW.trod_array Tryz.underlying219 hd0
  have cE : Tryz.prog.cellsOf 163 = 1 := by kernel_rfl
  have cA : Tryz.prog.cellsOf 219 = 16 := by kernel_rfl
  intro i hi
  have hcell := World.var?_cell hg0 hv0 i
  rw [hcell]
  have hx := hel i hi
  rw [cE, Nat.mul_one] at hx
  rw [cA] at hlen
  have hxi : i < xs.length := by omega
  rw [List.getElem?_eq_getElem hxi] at hx
  obtain ⟨n, e1, e2, _⟩ := DataW.trod_int Tryz.underlying163 hx
  have hci : i < cs0.size := by rw [← Array.length_toList, hlen]; exact hi
  have hgi : cs0[i]? = some (.int .u64 n) := by
    have h1 : (List.drop i cs0.toList).take 1 = [cs0[i]] := by
      rw [List.drop_eq_getElem_cons (by simpa using hci)]; rfl
    rw [h1] at e1
    rw [Array.getElem?_eq_getElem hci]
    exact congrArg some (List.cons.inj e1).1
  rw [hgi]
  have hdat : (Rows.laid_afflux_seal_nibbles : DataW Unit) = .agg (xs.map (·.1)) := by
    have := congrArg (·.1) hx1
    exact this
  have hn : (xs.map (·.1))[i]? = some (.lit (.int .u64 n)) := by
    rw [List.getElem?_map, List.getElem?_eq_getElem hxi, e2]; rfl
  have hall : ∀ j : Fin 16, (match (Rows.laid_afflux_seal_nibbles : DataW Unit) with | .agg l => l[j.val]? | _ => none) = some (.lit (.int .u64 (Crc.bv (Crc.nibs.getD j.val 0#64)))) := by
    intro j
    match j with
    | ⟨0, _⟩ => rfl
    | ⟨1, _⟩ => rfl
    | ⟨2, _⟩ => rfl
    | ⟨3, _⟩ => rfl
    | ⟨4, _⟩ => rfl
    | ⟨5, _⟩ => rfl
    | ⟨6, _⟩ => rfl
    | ⟨7, _⟩ => rfl
    | ⟨8, _⟩ => rfl
    | ⟨9, _⟩ => rfl
    | ⟨10, _⟩ => rfl
    | ⟨11, _⟩ => rfl
    | ⟨12, _⟩ => rfl
    | ⟨13, _⟩ => rfl
    | ⟨14, _⟩ => rfl
    | ⟨15, _⟩ => rfl
    | ⟨n + 16, h⟩ => exact absurd h (by omega)
  have h2 := hall ⟨i, hi⟩
  rw [hdat] at h2
  simp only at h2
  rw [hn] at h2
  have h3 := Option.some.inj h2
  have h4 := DataW.lit.inj h3
  have h5 := (Lit.int.inj h4).2
  rw [h5]
set_option maxRecDepth 100000 in
/-- The door's own heap meets the condition. -/
theorem door_met (os : Os) (args : Array Value) : laidMetH Tryz.prog [("afflux/seal.nibbles", Rows.laid_afflux_seal_nibbles)] ((World.doorLaid Tryz.prog 400 os).forCall (fun _ _ => 0) ⟨#[], args, []⟩).memory :=
  laidMetH_of_parts3 (fuel := 8) (laidMet_of_run' 8 (by kernel_rfl) (by kernel_rfl)) (by kernel_rfl) (by kernel_rfl)
end Go.Proofs.YtcbbdkennmopdaaGreatDoor
/- snap: Sweep; and what comes of no disk. -/
namespace Go.Proofs.YtcbbdkennmopdaaGreatDoor.PK
open Go.RowKit Go.Proofs.YtcbbdkennmopdaaGreatDoorW.PrintWords Go.Proofs.YtcbbdkennmopdaaGreatDoorW.PrintLast Go.Proofs.YtcbbdkennmopdaaGreatDoorW.PrintMore
open Go.Maps
theorem othersL_uses (but : ByteArray) : ∀ (l : List ByteArray) (s : DS) (n : Nat), (othersL but l s n).1.uses ≤ s.uses + (l.length : Int)
  | [], s, n => by show s.uses ≤ _; simp
  | x :: r, s, n => by
    unfold othersL
    have hu := deleteD_uses s x
    rw [List.length_cons]
    split
    · have := othersL_uses but r s n; omega
    · split
      · have := othersL_uses but r (deleteD s x).1 (n + 1); omega
      · show (deleteD s x).1.uses ≤ _
        omega
theorem othersL_cnt (but : ByteArray) : ∀ (l : List ByteArray) (s : DS) (n : Nat), 0 ≤ (othersL but l s n).2.1 ∧ (othersL but l s n).2.1 ≤ (n : Int) + (l.length : Int)
  | [], s, n => by show 0 ≤ (n : Int) ∧ (n : Int) ≤ _; simp
  | x :: r, s, n => by
    unfold othersL
    rw [List.length_cons]
    split
    · have := othersL_cnt but r s n; omega
    · split
      · have := othersL_cnt but r (deleteD s x).1 (n + 1); omega
      · show (0 : Int) ≤ 0 ∧ (0 : Int) ≤ _
        omega
theorem names_le {s : DS} (h : Good s) (fronts : List ByteArray) : (namesD s fronts).length ≤ 100 := by
  unfold namesD
  refine Nat.le_trans (List.length_filter_le _ _) ?_
  unfold namesF
  rw [List.length_map]
  exact h.count
theorem sweepD_eq (s : DS) : sweepD s = if (loadD s).2.2 = 0 then (if (othersD s (nameS (loadD s).1)).2.2 = 0 then (if (deleteD (othersD s (nameS (loadD s).1)).1 sFresh).2 = 0 then ((deleteD (othersD s (nameS (loadD s).1)).1 sFresh).1, (othersD s (nameS (loadD s).1)).2.1 + 1, 0) else if (deleteD (othersD s (nameS (loadD s).1)).1 sFresh).2 = 7 then ((deleteD (othersD s (nameS (loadD s).1)).1 sFresh).1, 0, 7) else ((deleteD (othersD s (nameS (loadD s).1)).1 sFresh).1, (othersD s (nameS (loadD s).1)).2.1, 0)) else ((othersD s (nameS (loadD s).1)).1, 0, (othersD s (nameS (loadD s).1)).2.2)) else (s, 0, (loadD s).2.2) := rfl
set_option maxHeartbeats 4000000 in
set_option maxRecDepth 100000 in
theorem Sweep_calls {w0 w : World} {g b : Nat} {s : DS} {K : Nat → Prop} (h : RunK w0 w g b s K) (hu : s.uses < 800000) (hT : SumW.Tab w0) : Calls Tryz.prog 18 #[.pointer (some ⟨g, 0, none⟩)] w (OthPost w0 w g b K (sweepD s)) := by
  have H0 := Aside0.mk h
  have HL := Aside0.mk (Load_calls h (hT.below h.bel hT.lt))
  unfold LoadPost at HL
  have HP : Aside0 (∀ e w' r, sweepD s = r → e = .returned (.tuple #[.int .i64 r.2.1, .int .i64 r.2.2]) → RunK w0 w' g b r.1 K → Held K w w' → OthPost w0 w g b K (sweepD s) e w') := ⟨fun e w' r hr h1 h2 h3 => by rw [hr]; exact ⟨h1, h2, h3⟩⟩
  have HSW := Aside0.mk (sweepD_eq s)
  have HOC : Aside0 (∀ but w1, Below w.heap.size w w1 → Calls Tryz.prog 69 #[.pointer (some ⟨g, 0, none⟩), .string but] w1 (OthPost w0 w1 g b K (othersD s but))) := ⟨fun but w1 hb => others_calls (h.below hb) (by omega) but⟩
  have HOU : Aside0 (∀ but, (othersD s but).1.uses ≤ s.uses + 100 ∧ 0 ≤ (othersD s but).2.1 ∧ (othersD s but).2.1 ≤ 100) := ⟨fun but => by
    have h1 := othersL_uses but (namesD s [sFront]) s 0
    have h2 := othersL_cnt but (namesD s [sFront]) s 0
    have h3 := names_le h.good.1 [sFront]
    unfold othersD
    exact ⟨by omega, h2.1, by omega⟩⟩
  clear h hT
  generalize loadD s = q at HL HSW
  obtain ⟨n, t, c⟩ := q
  dsimp only at HL HSW
  by_cases hc : c = 0
  · subst hc
    have HS2 : Aside0 (sweepD s = if (othersD s (nameS n)).2.2 = 0 then (if (deleteD (othersD s (nameS n)).1 sFresh).2 = 0 then ((deleteD (othersD s (nameS n)).1 sFresh).1, (othersD s (nameS n)).2.1 + 1, 0) else if (deleteD (othersD s (nameS n)).1 sFresh).2 = 7 then ((deleteD (othersD s (nameS n)).1 sFresh).1, 0, 7) else ((deleteD (othersD s (nameS n)).1 sFresh).1, (othersD s (nameS n)).2.1, 0)) else ((othersD s (nameS n)).1, 0, (othersD s (nameS n)).2.2)) := ⟨by rw [HSW.out, if_pos rfl]⟩
    have HO2 : Aside0 (∀ w1, Below w.heap.size w w1 → Calls Tryz.prog 69 #[.pointer (some ⟨g, 0, none⟩), .string (nameS n)] w1 (OthPost w0 w1 g b K (othersD s (nameS n)))) := ⟨fun w1 hb => HOC.out _ w1 hb⟩
    unfold OthPost at HO2
    have HU2 := Aside0.mk (HOU.out (nameS n))
    clear HSW HOC HOU
    generalize othersD s (nameS n) = o at HS2 HO2 HU2
    obtain ⟨s2, k, c2⟩ := o
    dsimp only at HS2 HO2 HU2
    by_cases hc2 : c2 = 0
    · subst hc2
      have HS3 : Aside0 (sweepD s = if (deleteD s2 sFresh).2 = 0 then ((deleteD s2 sFresh).1, k + 1, 0) else if (deleteD s2 sFresh).2 = 7 then ((deleteD s2 sFresh).1, 0, 7) else ((deleteD s2 sFresh).1, k, 0)) := ⟨by rw [HS2.out, if_pos rfl]⟩
      have HD : Aside0 (∀ w1, RunK w0 w1 g b s2 K → Calls Tryz.prog 79 #[.pointer (some ⟨g, 0, none⟩), .string ⟨#[109, 97, 114, 107, 46, 110, 101, 119]⟩] w1 fun e w' => e = .returned (.int .i64 (deleteD s2 sFresh).2) ∧ RunK w0 w' g b (deleteD s2 sFresh).1 K ∧ Held K w1 w') := ⟨fun w1 hr => delete_S hr (by have := HU2.out.1; omega) sFresh⟩
      have hk1 : IntKind.i64.wrap (k + 1) = k + 1 := by rw [IntKind.wrap_i64]; have := HU2.out; omega
      clear HS2
      generalize deleteD s2 sFresh = dl at HS3 HD
      obtain ⟨s3, c3⟩ := dl
      dsimp only at HS3 HD
      by_cases h30 : c3 = 0
      · subst h30
        have HS4 : Aside0 (sweepD s = (s3, k + 1, 0)) := ⟨by rw [HS3.out, if_pos rfl]⟩
        go_enter Tryz.func18, Tryz.ntmps18
        go_wp2_with fail
        refine HL.out.mono ?_
        rintro e w1 ⟨rfl, hb1⟩
        have HB1 := Aside0.mk hb1
        clear hb1
        go_wp2_with fail
        refine (Name_calls n w1).mono ?_
        rintro e w2 ⟨rfl, hb2⟩
        have HB2 := Aside0.mk (below_step HB1.out hb2)
        clear hb2
        go_wp2_with fail
        refine (HO2.out w2 HB2.out).mono ?_
        rintro e w3 ⟨rfl, hr3, hh3⟩
        have HR3 := Aside0.mk hr3
        have HH3 := Aside0.mk ((Held.below HB2.out H0.out.lt).trans hh3)
        clear hr3 hh3
        go_wp2_with fail
        refine (HD.out w3 HR3.out).mono ?_
        rintro e w4 ⟨rfl, hr4, hh4⟩
        have HR4 := Aside0.mk hr4
        have HH4 := Aside0.mk (HH3.out.trans hh4)
        clear hr4 hh4
        go_wp2_with fail
        go_ret2
        exact HP.out _ _ (s3, k + 1, 0) HS4.out rfl HR4.out HH4.out
      · by_cases h37 : c3 = 7
        · subst h37
          have HS4 : Aside0 (sweepD s = (s3, 0, 7)) := ⟨by rw [HS3.out, if_neg (by decide), if_pos rfl]⟩
          go_enter Tryz.func18, Tryz.ntmps18
          go_wp2_with fail
          refine HL.out.mono ?_
          rintro e w1 ⟨rfl, hb1⟩
          have HB1 := Aside0.mk hb1
          clear hb1
          go_wp2_with fail
          refine (Name_calls n w1).mono ?_
          rintro e w2 ⟨rfl, hb2⟩
          have HB2 := Aside0.mk (below_step HB1.out hb2)
          clear hb2
          go_wp2_with fail
          refine (HO2.out w2 HB2.out).mono ?_
          rintro e w3 ⟨rfl, hr3, hh3⟩
          have HR3 := Aside0.mk hr3
          have HH3 := Aside0.mk ((Held.below HB2.out H0.out.lt).trans hh3)
          clear hr3 hh3
          go_wp2_with fail
          refine (HD.out w3 HR3.out).mono ?_
          rintro e w4 ⟨rfl, hr4, hh4⟩
          have HR4 := Aside0.mk hr4
          have HH4 := Aside0.mk (HH3.out.trans hh4)
          clear hr4 hh4
          go_wp2_with fail
          go_ret2
          exact HP.out _ _ (s3, 0, 7) HS4.out rfl HR4.out HH4.out
        · have HS4 : Aside0 (sweepD s = (s3, k, 0)) := ⟨by rw [HS3.out, if_neg h30, if_neg h37]⟩
          go_enter Tryz.func18, Tryz.ntmps18
          go_wp2_with fail
          refine HL.out.mono ?_
          rintro e w1 ⟨rfl, hb1⟩
          have HB1 := Aside0.mk hb1
          clear hb1
          go_wp2_with fail
          refine (Name_calls n w1).mono ?_
          rintro e w2 ⟨rfl, hb2⟩
          have HB2 := Aside0.mk (below_step HB1.out hb2)
          clear hb2
          go_wp2_with fail
          refine (HO2.out w2 HB2.out).mono ?_
          rintro e w3 ⟨rfl, hr3, hh3⟩
          have HR3 := Aside0.mk hr3
          have HH3 := Aside0.mk ((Held.below HB2.out H0.out.lt).trans hh3)
          clear hr3 hh3
          go_wp2_with fail
          refine (HD.out w3 HR3.out).mono ?_
          rintro e w4 ⟨rfl, hr4, hh4⟩
          have HR4 := Aside0.mk hr4
          have HH4 := Aside0.mk (HH3.out.trans hh4)
          clear hr4 hh4
          go_wp2_with fail
          go_ret2
          exact HP.out _ _ (s3, k, 0) HS4.out rfl HR4.out HH4.out
    · have HS4 : Aside0 (sweepD s = (s2, 0, c2)) := ⟨by rw [HS2.out, if_neg hc2]⟩
      clear HS2
      go_enter Tryz.func18, Tryz.ntmps18
      go_wp2_with fail
      refine HL.out.mono ?_
      rintro e w1 ⟨rfl, hb1⟩
      have HB1 := Aside0.mk hb1
      clear hb1
      go_wp2_with fail
      refine (Name_calls n w1).mono ?_
      rintro e w2 ⟨rfl, hb2⟩
      have HB2 := Aside0.mk (below_step HB1.out hb2)
      clear hb2
      go_wp2_with fail
      refine (HO2.out w2 HB2.out).mono ?_
      rintro e w3 ⟨rfl, hr3, hh3⟩
      have HR3 := Aside0.mk hr3
      have HH3 := Aside0.mk ((Held.below HB2.out H0.out.lt).trans hh3)
      clear hr3 hh3
      go_wp2_with fail
      go_ret2
      exact HP.out _ _ (s2, 0, c2) HS4.out rfl HR3.out HH3.out
  · have HS4 : Aside0 (sweepD s = (s, 0, c)) := ⟨by rw [HSW.out, if_neg hc]⟩
    clear HSW
    go_enter Tryz.func18, Tryz.ntmps18
    go_wp2_with fail
    refine HL.out.mono ?_
    rintro e w1 ⟨rfl, hb1⟩
    have HB1 := Aside0.mk hb1
    clear hb1
    go_wp2_with fail
    go_ret2
    exact HP.out _ _ (s, 0, c) HS4.out rfl (H0.out.below HB1.out) (Held.below HB1.out H0.out.lt)
end Go.Proofs.YtcbbdkennmopdaaGreatDoor.PK
/- snap: the plain law of SnapLoads: what lies on the disk, what is told of it, what is swept. -/
namespace Go.Proofs.YtcbbdkennmopdaaGreatDoor.PK
open Go.RowKit Go.Proofs.YtcbbdkennmopdaaGreatDoorW.PrintWords Go.Proofs.YtcbbdkennmopdaaGreatDoorW.PrintLast Go.Proofs.YtcbbdkennmopdaaGreatDoorW.PrintMore
open Go.Maps
theorem delF_one : ∀ {l : List Fl} {s : ByteArray} {f : Fl}, (l.map (·.name)).Nodup → getF l s = some f → (delF l s).length + 1 = l.length
  | [], _, _, _, h => by rw [getF_nil] at h; cases h
  | y :: r, s, f, hn, h => by
    rw [List.map_cons, List.nodup_cons] at hn
    rw [getF_cons] at h
    rw [delF_cons]
    by_cases hy : y.name = s
    · rw [if_pos hy]
      have hr : delF r s = r := by
        apply delF_none
        cases hg : getF r s with
        | none => rfl
        | some z =>
          have h1 := getF_some hg
          exact absurd (by rw [hy, ← h1.2]; exact List.mem_map_of_mem h1.1) hn.1
      rw [hr]
      rfl
    · rw [if_neg hy] at h ⊢
      have := delF_one hn.2 h
      simp only [List.length_cons]
      omega
theorem after_len (but : ByteArray) : ∀ (l : List ByteArray) (fs : List Fl), Asc fs → l.Nodup → (∀ x ∈ l, (getF fs x).isSome = true) → (afterF (delOps but l) fs).length + (delOps but l).length = fs.length
  | [], fs, _, _, _ => rfl
  | x :: r, fs, ha, hn, h => by
    obtain ⟨hx, hr⟩ := List.nodup_cons.1 hn
    unfold delOps
    by_cases hb : x = but
    · rw [if_pos hb]
      exact after_len but r fs ha hr (fun y hy => h y (List.mem_cons_of_mem _ hy))
    · rw [if_neg hb, afterF_cons, List.length_cons]
      have h1 := h x List.mem_cons_self
      obtain ⟨f, hf⟩ := Option.isSome_iff_exists.1 h1
      have h2 := delF_one ha.names hf
      have h3 := after_len but r (delF fs x) (ha.del x) hr (fun y hy => by
        rw [getF_del, if_neg (fun e => hx (by rw [← e]; exact hy))]
        exact h y (List.mem_cons_of_mem _ hy))
      omega
theorem Calm.more {s : DS} {room : Int} {fs : List Fl} {u u' : Int} (h : Calm s room fs u) (hu : u ≤ u') : Calm s room fs u' := ⟨h.off, h.armed, h.room, h.files, Int.le_trans h.uses hu⟩
/-- A Put on a disk whose power stays. -/
theorem put_calm {s : DS} {room : Int} {fs : List Fl} {u : Int} (h : Calm s room fs u) {name x : ByteArray} (hn : mayN name = true) (h1 : x.size ≤ 1048576) (h2 : fs.length < 100) (h3 : (usedF fs : Int) + (x.size : Int) ≤ room) : (putS s name x).2 = 0 ∧ Calm (putS s name x).1 room (putF fs ⟨name, 0, x, (x.size : Int)⟩) u := by
  have hc : putC s name x = 0 := by
    unfold putC fitsD
    rw [if_pos hn, free_calm h, h.files]
    rw [if_neg (by rintro (h9 | ⟨_, h9⟩) <;> omega), if_neg (by omega)]
  unfold putS
  rw [hc]
  dsimp only
  rw [if_pos rfl]
  exact ⟨rfl, h.off, h.armed, h.room, by show putF s.files _ = _; rw [h.files], h.uses⟩
/-- What lies on the disk: a mark's bytes, and other files of a snapshot's disk. -/
structure Lain (s : DS) (mark : ByteArray) (c : Nat) (u : Nat) : Prop where
  calm : ∃ fs, Calm s 1048576 fs 2000
  asc : Asc s.files
  only : OnlyN s.files
  ok : FlsOk s.files
  mark : getF s.files sMark = some ⟨sMark, 0, mark, (mark.size : Int)⟩
  len : s.files.length ≤ c
  used : usedF s.files ≤ u
theorem lain_first (mark : ByteArray) (h : mark.size ≤ 3000) : Lain (putS (newD 1048576) sMark mark).1 mark 1 3000 := by
  have hp := put_calm (calm_new 1048576) (name := sMark) (x := mark) rfl (by omega) (by decide) (by rw [usedF_nil]; omega)
  have e : putF [] ⟨sMark, 0, mark, (mark.size : Int)⟩ = [⟨sMark, 0, mark, (mark.size : Int)⟩] := rfl
  rw [e] at hp
  have hf := hp.2.files
  refine ⟨⟨_, hp.2.more (by decide)⟩, by rw [hf]; exact List.pairwise_singleton _ _, ?_, ?_, ?_, by rw [hf]; exact Nat.le_refl _, ?_⟩
  · intro f hm
    rw [hf, List.mem_singleton] at hm
    rw [hm]
    exact .inl rfl
  · intro f hm
    rw [hf, List.mem_singleton] at hm
    rw [hm]
    rfl
  · rw [hf, getF_cons, if_pos rfl]
  · rw [hf, usedF_cons, usedF_nil]
    exact h
theorem Lain.put {s : DS} {mark : ByteArray} {c u : Nat} (h : Lain s mark c u) {name x : ByteArray} (hn : mayN name = true) (ho : name = sFresh ∨ hasP name sFront = true) (hm : name ≠ sMark) (hx : x.size ≤ 3000) (hc : c < 100) (hu : u ≤ 200000) : Lain (putS s name x).1 mark (c + 1) (u + 3000) := by
  obtain ⟨fs, hcm⟩ := h.calm
  have hfs := hcm.files
  have hl := h.len
  have hus := h.used
  rw [hfs] at hl hus
  have hp := put_calm hcm (name := name) (x := x) hn (by omega) (by omega) (by omega)
  have hf := hp.2.files
  have ha := h.asc
  rw [hfs] at ha
  refine ⟨⟨_, hp.2⟩, by rw [hf]; exact ha.put _, ?_, ?_, ?_, ?_, ?_⟩
  · intro f hm
    rw [hf] at hm
    rcases mem_putF.1 hm with rfl | ⟨hm, _⟩
    · exact .inr ho
    · exact h.only f (by rw [hfs]; exact hm)
  · intro f hm
    rw [hf] at hm
    rcases mem_putF.1 hm with rfl | ⟨hm, _⟩
    · exact hn
    · exact h.ok f (by rw [hfs]; exact hm)
  · rw [hf, getF_put, if_neg (fun e => hm e.symm), ← hfs]
    exact h.mark
  · rw [hf]
    have := putF_le fs ⟨name, 0, x, (x.size : Int)⟩
    omega
  · rw [hf]
    have := usedF_put fs ⟨name, 0, x, (x.size : Int)⟩
    have e : ((⟨name, 0, x, (x.size : Int)⟩ : Fl).data.size) = x.size := rfl
    omega
theorem Lain.off {s : DS} {mark : ByteArray} {c u : Nat} (h : Lain s mark c u) : s.off = false := by obtain ⟨fs, hc⟩ := h.calm; exact hc.off
/-- What the document tells: of the mark, and of the file that it names. -/
def toldL (s : DS) (mark : ByteArray) : Option (Nat × ByteArray) :=
  match markedB mark with
  | none => none
  | some k => if (readD s (nameN k)).2 = 0 then (dataB k (readD s (nameN k)).1).map fun d => (k, d) else none
theorem lain_no {s : DS} {mark : ByteArray} {c u : Nat} (h : Lain s mark c u) (ht : toldL s mark = none) : loadD s = (0, sNone, 11) ∧ sweepD s = (s, 0, 11) := by
  have hl : loadD s = (0, sNone, 11) := by
    rw [loadD_eq, read_some h.off h.mark, if_pos rfl]
    dsimp only
    unfold toldL at ht
    cases hm : markedB mark with
    | none => rfl
    | some k =>
      rw [hm] at ht
      simp only at ht ⊢
      rw [loadF_eq]
      by_cases h0 : (readD s (nameN k)).2 = 0
      · rw [if_pos h0] at ht ⊢
        cases hd : dataB k (readD s (nameN k)).1 with
        | none => rfl
        | some d => rw [hd] at ht; cases ht
      · rw [if_neg h0]
  refine ⟨hl, ?_⟩
  rw [sweepD_eq, hl]
  rw [if_neg (by decide)]
theorem name_after (n : Nat) : lessN sMark (nameN n) = true := by
  rw [lessN_lt]
  show ([109, 97, 114, 107] : List UInt8) < Crc.nameL n
  unfold Crc.nameL
  show (109 : UInt8) :: _ < (115 : UInt8) :: _
  exact List.cons_lt_cons_iff.2 (.inl (by decide))
theorem runs_calm : ∀ (ops : List (List Fl → List Fl)) (s : DS) (room : Int) (fs : List Fl) (u : Int), Calm s room fs u → (runsD ops s).2 = 0 ∧ Calm (runsD ops s).1 room (afterF ops fs) (u + (ops.length : Int)) := by
  intro ops s room fs u h
  have hk := runs_keeps ops s
  rcases runs_cases ops s h.off with ⟨a1, a2, a3⟩ | ⟨_, a2, _⟩
  · exact ⟨a1, a3, hk.2.1.trans h.armed, hk.1.trans h.room, by rw [a2, h.files], by have := hk.2.2; have := h.uses; omega⟩
  · rw [h.armed] at a2; cases a2
/-- What is swept: all but the mark and the file that it names. -/
theorem lain_yes {s : DS} {mark : ByteArray} {c u : Nat} (h : Lain s mark c u) {k : Nat} {d : ByteArray} (ht : toldL s mark = some (k, d)) :
    k ≤ 99999999 ∧ loadD s = ((k : Int), d, 0) ∧ ∃ t : DS, sweepD s = (t, (s.files.length : Int) - 2, 0) ∧ namesD t [] = [sMark, nameN k] ∧ loadD t = ((k : Int), d, 0) ∧ ∃ f, getF s.files (nameN k) = some f ∧ Calm t 1048576 [⟨sMark, 0, mark, (mark.size : Int)⟩, f] (2001 + (c : Int)) := by
  unfold toldL at ht
  cases hm : markedB mark with
  | none => rw [hm] at ht; cases ht
  | some k' =>
    rw [hm] at ht
    simp only at ht
    by_cases h0 : (readD s (nameN k')).2 = 0
    · rw [if_pos h0] at ht
      cases hd : dataB k' (readD s (nameN k')).1 with
      | none => rw [hd] at ht; cases ht
      | some d' =>
        rw [hd] at ht
        simp only [Option.map_some, Option.some.injEq, Prod.mk.injEq] at ht
        obtain ⟨rfl, rfl⟩ := ht
        have hk := marked_le hm
        obtain ⟨f, hf⟩ : ∃ f, getF s.files (nameN k') = some f := by
          cases hg : getF s.files (nameN k') with
          | none => rw [read_none h.off hg] at h0; exact absurd h0 (by decide)
          | some f => exact ⟨f, rfl⟩
        have hrd := read_some h.off hf
        rw [hrd] at hd
        have hl : loadD s = ((k' : Int), d', 0) := by
          rw [loadD_eq, read_some h.off h.mark, if_pos rfl]
          dsimp only
          rw [hm]
          simp only
          rw [loadF_eq, hrd, if_pos rfl]
          dsimp only
          rw [hd]
        refine ⟨hk, hl, ?_⟩
        obtain ⟨fs, hcm⟩ := h.calm
        have hfs := hcm.files
        have hor := others_runs (nameN k') (snapsF s.files) s 0 (snaps_nodup h.asc) (fun x hx => by
          obtain ⟨⟨g, hg, rfl⟩, _⟩ := mem_snaps.1 hx
          exact ⟨h.ok g hg, isSome_of_mem hg⟩)
        have hlen := after_len (nameN k') (snapsF s.files) s.files h.asc (snaps_nodup h.asc) (fun x hx => by
          obtain ⟨⟨g, hg, rfl⟩, _⟩ := mem_snaps.1 hx
          exact isSome_of_mem hg)
        have hrc := runs_calm (delOps (nameN k') (snapsF s.files)) s 1048576 fs 2000 hcm
        have hod : othersD s (nameN k') = ((runsD (delOps (nameN k') (snapsF s.files)) s).1, (((delOps (nameN k') (snapsF s.files)).length : Nat) : Int), 0) := by
          unfold othersD
          have e : namesD s [sFront] = snapsF s.files := rfl
          rw [e, hor, hrc.1, if_pos rfl, Nat.zero_add]
        have hc2 := hrc.2
        rw [← hfs] at hc2
        generalize (runsD (delOps (nameN k') (snapsF s.files)) s).1 = t1 at hod hc2
        have ha1 := after_asc (nameN k') (snapsF s.files) s.files h.asc
        have hg1 := getF_after (nameN k') (snapsF s.files) s.files
        generalize afterF (delOps (nameN k') (snapsF s.files)) s.files = fs1 at hc2 ha1 hg1 hlen
        generalize (delOps (nameN k') (snapsF s.files)).length = cnt at hod hlen hc2
        have hnn : nameS ((k' : Nat) : Int) = nameN k' := nameS_nat k' hk
        have hgm : getF fs1 sMark = some ⟨sMark, 0, mark, (mark.size : Int)⟩ := by
          rw [hg1, if_neg (fun h9 => by have := (mem_snaps.1 h9.1).2; rw [mark_front] at this; cases this)]
          exact h.mark
        have hgk : getF fs1 (nameN k') = some f := by
          rw [hg1, if_neg (fun h9 => h9.2 rfl)]
          exact hf
        have hgo : ∀ x, x ≠ sMark → x ≠ nameN k' → x ≠ sFresh → getF fs1 x = none := fun x h1 h2 h3 => by
          rw [hg1]
          by_cases h4 : hasP x sFront = true
          · split
            · rfl
            · rename_i h5
              cases hg : getF s.files x with
              | none => rfl
              | some z => exact absurd ⟨mem_snaps.2 ⟨⟨z, (getF_some hg).1, (getF_some hg).2⟩, h4⟩, h2⟩ h5
          · rw [only_get h.only h1 h3 (by simpa using h4)]
            split <;> rfl
        have key : ∀ fs2 : List Fl, Asc fs2 → (∀ x, getF fs2 x = if x = sFresh then none else getF fs1 x) → fs2 = [⟨sMark, 0, mark, (mark.size : Int)⟩, f] := fun fs2 ha2 hg2 => by
          have hfn := (getF_some hf).2
          refine Asc.ext ha2 (List.pairwise_cons.2 ⟨fun y hy => by rw [List.mem_singleton.1 hy, hfn]; exact name_after k', List.pairwise_singleton _ _⟩) fun x => ?_
          rw [hg2, getF_cons, getF_cons, getF_nil, hfn]
          by_cases h3 : x = sFresh
          · rw [if_pos h3, h3, if_neg mark_fresh, if_neg (ne_fresh k')]
          · rw [if_neg h3]
            by_cases h1 : x = sMark
            · rw [h1, if_pos rfl]; exact hgm
            · rw [if_neg (fun e => h1 e.symm)]
              by_cases h2 : x = nameN k'
              · rw [h2, if_pos rfl]; exact hgk
              · rw [if_neg (fun e => h2 e.symm)]
                exact hgo x h1 h2 h3
        have fin : ∀ t : DS, t.off = false → t.files = [⟨sMark, 0, mark, (mark.size : Int)⟩, f] → namesD t [] = [sMark, nameN k'] ∧ loadD t = ((k' : Int), d', 0) := fun t ho hft => by
          have hfn := (getF_some hf).2
          refine ⟨by rw [namesD_all, hft]; show [sMark, f.name] = _; rw [hfn], ?_⟩
          rw [loadD_eq, read_some ho (f := ⟨sMark, 0, mark, (mark.size : Int)⟩) (by rw [hft, getF_cons, if_pos rfl]), if_pos rfl]
          dsimp only
          rw [hm]
          simp only
          rw [loadF_eq, read_some ho (f := f) (by rw [hft, getF_cons, if_neg (fun e => ne_mark k' e.symm), getF_cons, if_pos hfn]), if_pos rfl]
          dsimp only
          rw [hd]
        have hsw : sweepD s = if (deleteD t1 sFresh).2 = 0 then ((deleteD t1 sFresh).1, (cnt : Int) + 1, 0) else if (deleteD t1 sFresh).2 = 7 then ((deleteD t1 sFresh).1, 0, 7) else ((deleteD t1 sFresh).1, (cnt : Int), 0) := by
          rw [sweepD_eq, hl]
          dsimp only
          rw [if_pos rfl, hnn, hod]
          dsimp only
          rw [if_pos rfl]
        cases hfr : getF fs1 sFresh with
        | none =>
          have hdl := delete_gone t1 sFresh sFresh_may (by rw [hc2.files]; exact hfr)
          have hus : useD t1 = ({ t1 with uses := t1.uses + 1 }, true) := by
            unfold useD
            rw [if_neg (by rw [hc2.off]; decide), if_neg (by rw [hc2.armed]; simp), if_neg (by rw [hc2.armed]; decide)]
          rw [hus] at hdl
          dsimp only at hdl
          rw [if_pos rfl] at hdl
          rw [hdl] at hsw
          dsimp only at hsw
          rw [if_neg (by decide), if_neg (by decide)] at hsw
          have hf2 := key fs1 ha1 (fun x => by
            by_cases h3 : x = sFresh
            · rw [if_pos h3, h3]; exact hfr
            · rw [if_neg h3])
          have hl2 : fs1.length = 2 := by rw [hf2]; rfl
          have hlc := h.len
          have hfi := fin { t1 with uses := t1.uses + 1 } hc2.off (by show t1.files = _; rw [hc2.files, hf2])
          refine ⟨_, ?_, hfi.1, hfi.2, f, hf, hc2.off, hc2.armed, hc2.room, by show t1.files = _; rw [hc2.files, hf2], by show t1.uses + 1 ≤ _; have := hc2.uses; omega⟩
          rw [hsw]
          congr 2
          omega
        | some z =>
          have hdl := delete_op t1 sFresh sFresh_may (by rw [hc2.files, hfr]; rfl)
          rcases opD_cases t1 (fun fs => delF fs sFresh) with ⟨b1, b2, b3, _⟩ | ⟨_, _, _, b4⟩
          · rw [hdl] at hsw
            rw [if_pos b1] at hsw
            rw [hc2.files] at b2
            have hf2 := key (delF fs1 sFresh) (ha1.del _) (fun x => by rw [getF_del])
            have hl2 : (delF fs1 sFresh).length = 2 := by rw [hf2]; rfl
            have hl3 := delF_one ha1.names hfr
            have hlc := h.len
            have hfi := fin _ b3 (by rw [b2, hf2])
            have hok := opD_keeps t1 (fun fs => delF fs sFresh)
            refine ⟨_, ?_, hfi.1, hfi.2, f, hf, b3, hok.2.1.trans hc2.armed, hok.1.trans hc2.room, by rw [b2, hf2], by have := hc2.uses; have := hok.2.2; omega⟩
            rw [hsw]
            congr 2
            omega
          · exfalso
            rcases b4 with b4 | b4
            · rw [hc2.off] at b4; cases b4
            · rw [hc2.armed] at b4; cases b4
    · rw [if_neg h0] at ht; cases ht
end Go.Proofs.YtcbbdkennmopdaaGreatDoor.PK
/- What the printed references' Open and All come to (printed with PB). -/
namespace Go.Proofs.YtcbbdkennmopdaaGreatDoor.PB
open Go.RowKit Go.Proofs.YtcbbdkennmopdaaGreatDoorW.PrintWords Go.Proofs.YtcbbdkennmopdaaGreatDoorW.PrintLast Go.Proofs.YtcbbdkennmopdaaGreatDoorW.PrintMore
open Go.Proofs.YtcbbdkennmopdaaGreatDoor.PR (wrap64_id wrap64_nat ends_at length_at)
open Go.Proofs.YtcbbdkennmopdaaGreatDoor.PA
theorem ref_open_at (s : ByteArray) (hs : s.size ≤ 4611686018427387904) : affluxref05_Open.f s = some (openB s) := by
  have hL := size_list s
  unfold affluxref05_Open.f
  by_cases h1 : s.size < 4
  · rw [if_pos (by omega), openB_of (Crc.openL_short _ (by omega))]; rfl
  rw [if_neg (by omega), if_pos (by omega), if_pos (by omega), if_pos (by omega), if_pos (by omega)]
  have hb0 := bt_range s 0
  have hb1 := bt_range s 1
  have hb2 := bt_range s 2
  have hb3 := bt_range s 3
  have ht : 16777216 * bt s 0 + 65536 * bt s 1 + 256 * bt s 2 + bt s 3 = ((Crc.tell s.data.toList : Nat) : Int) := by
    have := told_at s (by omega)
    unfold seal_told.f at this
    rw [if_pos (by omega)] at this
    exact Option.some.inj this
  generalize bt s 0 = b0 at *
  generalize bt s 1 = b1 at *
  generalize bt s 2 = b2 at *
  generalize bt s 3 = b3 at *
  rw [wrap64_id b0 (by omega) (by omega), wrap64_id b1 (by omega) (by omega), wrap64_id b2 (by omega) (by omega), wrap64_id b3 (by omega) (by omega), wrap64_id (16777216 * b0) (by omega) (by omega), wrap64_id (65536 * b1) (by omega) (by omega), wrap64_id (256 * b2) (by omega) (by omega), wrap64_id (16777216 * b0 + 65536 * b1) (by omega) (by omega), wrap64_id (16777216 * b0 + 65536 * b1 + 256 * b2) (by omega) (by omega), wrap64_id (16777216 * b0 + 65536 * b1 + 256 * b2 + b3) (by omega) (by omega), ht]
  clear ht hb0 hb1 hb2 hb3
  by_cases h2 : 65536 < Crc.tell s.data.toList
  · rw [if_pos (by omega), openB_of (Crc.openL_big _ (by omega) h2)]; rfl
  rw [if_neg (by omega), wrap64_id (((Crc.tell s.data.toList : Nat) : Int) + 12) (by omega) (by omega), wrap64_id (4 + ((Crc.tell s.data.toList : Nat) : Int)) (by omega) (by omega)]
  by_cases h3 : s.size < Crc.tell s.data.toList + 12
  · rw [if_pos (by omega), openB_of (Crc.openL_cut _ (by omega) (by omega) (by omega))]; rfl
  rw [if_neg (by omega), if_pos (by omega), if_pos (by omega)]
  have e1 : (4 + ((Crc.tell s.data.toList : Nat) : Int)).toNat = 4 + Crc.tell s.data.toList := by omega
  have e2 : (((Crc.tell s.data.toList : Nat) : Int) + 12).toNat = Crc.tell s.data.toList + 12 := by omega
  have e3 : (s.data.toList.take (4 + Crc.tell s.data.toList)).drop 4 = (s.data.toList.drop 4).take (Crc.tell s.data.toList) := by rw [List.drop_take, Nat.add_sub_cancel_left]
  rw [e1, e2, ext_mkB, ext_mkB, e3, List.drop_zero]
  unfold affluxref05_Frame.f
  rw [if_pos (by rw [Crc.mkB_size]; simp; omega), Option.bind_some, if_pos (by omega), if_pos (by omega), toList_mkB, toList_mkB, Crc.mkB_list]
  by_cases h5 : Crc.frame ((s.data.toList.drop 4).take (Crc.tell s.data.toList)) = s.data.toList.take (Crc.tell s.data.toList + 12)
  · rw [if_pos h5, openB_of (Crc.openL_good _ (by omega) (by omega) h5)]
    rfl
  · rw [if_neg h5, openB_of (Crc.openL_bad _ (by omega) (by omega) h5)]; rfl
theorem ref_all_l0 (s : ByteArray) (hs : s.size ≤ 4611686018427387904) (n : Nat) : ∀ (i : Nat) (acc : List ByteArray) (k : Nat), i ≤ s.size → s.size - i ≤ n → n + 10 ≤ k → acc.length + n < 8796093022208 →
    affluxref05_All.l0 k s acc (i : Int) = some (acc ++ (Crc.allL (s.data.toList.drop i)).1.map Crc.mkB, ((i + (Crc.allL (s.data.toList.drop i)).2.1 : Nat) : Int), ((Crc.allL (s.data.toList.drop i)).2.2 : Int)) := by
  induction n with
  | zero =>
    intro i acc k hi hn hk ha
    obtain ⟨k, rfl⟩ : ∃ m, k = m + 1 := ⟨k - 1, by omega⟩
    simp only [affluxref05_All.l0]
    rw [if_neg (by omega), List.drop_eq_nil_of_le (by rw [size_list]; omega), Crc.allL_nil]
    simp
  | succ n ih =>
    intro i acc k hi hn hk ha
    obtain ⟨k, rfl⟩ : ∃ m, k = m + 1 := ⟨k - 1, by omega⟩
    simp only [affluxref05_All.l0]
    by_cases hlt : i < s.size
    · have hdl : (s.data.toList.drop i).length = s.size - i := by rw [List.length_drop, size_list]
      have hne : s.data.toList.drop i ≠ [] := fun e => by rw [e] at hdl; simp at hdl; omega
      rw [if_pos (by omega), if_pos (by omega), if_pos (by omega), Int.toNat_natCast, drop_ext, ref_open_at _ (by rw [Crc.mkB_size, hdl]; omega), Option.bind_some]
      unfold openB
      rw [Crc.mkB_list]
      dsimp only
      by_cases ho : (Crc.openL (s.data.toList.drop i)).2.2 = 0
      · have hp := Crc.openL_pos _ ho
        have hle := Crc.openL_le (s.data.toList.drop i)
        rw [hdl] at hle
        rw [if_pos (by omega), if_pos (by omega), wrap64_id _ (by omega) (by omega), show (i : Int) + ((Crc.openL (s.data.toList.drop i)).2.1 : Int) = ((i + (Crc.openL (s.data.toList.drop i)).2.1 : Nat) : Int) by omega,
          ih (i + (Crc.openL (s.data.toList.drop i)).2.1) _ k (by omega) (by omega) (by omega) (by simp; omega), Crc.allL_step _ hne ho, List.drop_drop]
        simp [Nat.add_assoc]
      · rw [if_neg (by omega), Crc.allL_end _ hne ho]
        simp
    · rw [if_neg (by omega), List.drop_eq_nil_of_le (by rw [size_list]; omega), Crc.allL_nil]
      simp
theorem ref_all_at (s : ByteArray) (hs : s.size ≤ 1073741824) (k : Nat) (hk : s.size + 10 ≤ k) : affluxref05_All.f k s = some (allB s) := by
  unfold affluxref05_All.f allB
  have := ref_all_l0 s (by omega) s.size 0 [] k (by omega) (by omega) hk (by simp; omega)
  rw [show (0 : Int) = ((0 : Nat) : Int) from rfl, this]
  simp
end Go.Proofs.YtcbbdkennmopdaaGreatDoor.PB
/- The document's answers for snap: what the printed references come to. -/
namespace Go.Proofs.YtcbbdkennmopdaaGreatDoor.PB
open Go.RowKit Go.Proofs.YtcbbdkennmopdaaGreatDoorW.PrintWords Go.Proofs.YtcbbdkennmopdaaGreatDoorW.PrintLast Go.Proofs.YtcbbdkennmopdaaGreatDoorW.PrintMore
open Go.Proofs.YtcbbdkennmopdaaGreatDoor.PR (wrap64_id wrap64_nat)
open Go.Proofs.YtcbbdkennmopdaaGreatDoor.PA (ext_mkB drop_ext allB)
open Go.Proofs.YtcbbdkennmopdaaGreatDoor.Crc (mkB mkB_size mkB_list mkB_append beK numL framesL cutsL frame)
theorem str_one (n : Nat) : strOfNums [(n : Int)] = mkB [UInt8.ofNat n] := rfl
theorem number_end (acc : List UInt8) (h : acc.length < 256) : ((some (([(((mkB acc).size : Int)) % 256] : List Int) : List Int)).bind fun y142 => (if (strOfNums y142).size + (mkB acc).size ≤ 9223372036854775807 then (some ((strOfNums y142) ++ mkB acc)) else (none))) = some (mkB (UInt8.ofNat acc.length :: acc)) := by
  rw [Option.bind_some, mkB_size, show ((acc.length : Int)) % 256 = (acc.length : Int) by omega, str_one, if_pos (by rw [mkB_size]; simp; omega), mkB_append]
  rfl
theorem number_l0 (j : Nat) : ∀ (n k : Nat) (acc : List UInt8), n < 256 ^ j → n < 18446744073709551616 → j + 1 ≤ k → acc.length + j < 200 → affluxref04_Number.l0 k (n : Int) (mkB acc) = some (mkB (UInt8.ofNat (beK j n ++ acc).length :: (beK j n ++ acc))) := by
  induction j with
  | zero =>
    intro n k acc hn _ hk ha
    have h0 : n = 0 := by simpa using hn
    subst h0
    obtain ⟨k, rfl⟩ : ∃ q, k = q + 1 := ⟨k - 1, by omega⟩
    unfold affluxref04_Number.l0
    rw [if_neg (by omega), number_end acc (by omega)]
    rfl
  | succ j ih =>
    intro n k acc hn hn2 hk ha
    obtain ⟨k, rfl⟩ : ∃ q, k = q + 1 := ⟨k - 1, by omega⟩
    unfold affluxref04_Number.l0
    by_cases h0 : n = 0
    · subst h0
      rw [if_neg (by omega), number_end acc (by omega)]
      rfl
    · have e1 : Int.tmod (n : Int) 256 % 256 = ((n % 256 : Nat) : Int) := by rw [Int.tmod_eq_emod_of_nonneg (by omega)]; omega
      have e2 : IntKind.u64.wrap (Int.tdiv (n : Int) 256) = ((n / 256 : Nat) : Int) := by rw [Int.tdiv_eq_ediv_of_nonneg (by omega), IntKind.wrap_u64]; omega
      rw [if_pos (by omega), Option.bind_some, e1, str_one, if_pos (by rw [mkB_size, mkB_size]; simp; omega), e2, mkB_append, ih (n / 256) k _ (by rw [Nat.pow_succ] at hn; exact Nat.div_lt_of_lt_mul (by omega)) (by omega) (by omega) (by simp; omega)]
      have e3 : beK (j + 1) n = beK j (n / 256) ++ [UInt8.ofNat (n % 256)] := by
        conv => lhs; unfold beK
        rw [if_neg h0]
      rw [e3, List.append_assoc]
theorem number_at (n k : Nat) (hn : n < 18446744073709551616) (hk : 9 ≤ k) : affluxref04_Number.f k (n : Int) = some (mkB (numL n)) := by
  unfold affluxref04_Number.f
  have := number_l0 8 n k [] (by omega) hn hk (by simp)
  rw [List.append_nil] at this
  exact this
theorem size_at (n k : Nat) (hn : n ≤ 9223372036854775807) (hk : 9 ≤ k) : affluxref04_Size.f k (n : Int) = some (mkB (numL n)) := by
  unfold affluxref04_Size.f
  rw [if_neg (by omega), show IntKind.u64.wrap (n : Int) = (n : Int) by rw [IntKind.wrap_u64]; omega, number_at n k (by omega) hk, Option.bind_some]
theorem refframe_at (s : ByteArray) (h : s.size ≤ 1000000) : affluxref05_Frame.f s = some (mkB (frame s.data.toList)) := by
  unfold affluxref05_Frame.f
  rw [if_pos (by omega)]
theorem file_l0 (d : ByteArray) (hd : d.size ≤ 1000000) (m : Nat) : ∀ (i k : Nat) (acc : List UInt8), d.size ≤ i + 60000 * m → i ≤ 2000000 → m + 1 ≤ k → acc.length + 70000 * m ≤ 1099511627776 → affluxref26_File.l0 k d (mkB acc) (i : Int) = some (mkB (acc ++ framesL (cutsL (d.data.toList.drop i)))) := by
  induction m with
  | zero =>
    intro i k acc hi _ hk ha
    obtain ⟨k, rfl⟩ : ∃ q, k = q + 1 := ⟨k - 1, by omega⟩
    unfold affluxref26_File.l0
    rw [if_neg (by omega), List.drop_eq_nil_of_le (by rw [PK.toList_size]; omega)]
    simp [Crc.cutsL_nil, framesL]
  | succ m ih =>
    intro i k acc hi hi2 hk ha
    obtain ⟨k, rfl⟩ : ∃ q, k = q + 1 := ⟨k - 1, by omega⟩
    unfold affluxref26_File.l0
    by_cases hlt : i < d.size
    · have a1 : d.size ≤ i + 60000 + 60000 * m := by omega
      have a2 : i + 60000 ≤ 2000000 := by
        clear ih ha hk a1 hi
        omega
      have a3 : m + 1 ≤ k := by omega
      have hw : wrap64 ((i : Int) + 60000) = ((i + 60000 : Nat) : Int) := by rw [wrap64_id _ (by omega) (by omega)]; omega
      have hmn : mn (wrap64 ((i : Int) + 60000)) (d.size : Int) = ((min (i + 60000) d.size : Nat) : Int) := by rw [hw]; unfold mn; split <;> omega
      rw [hmn, hw, if_pos (by omega), if_pos (by omega), if_pos (by omega), if_pos (by omega), Int.toNat_natCast, Int.toNat_natCast]
      have hl : d.data.toList.length = d.size := PK.toList_size d
      have e1 : d.extract i (min (i + 60000) d.size) = mkB ((d.data.toList.drop i).take 60000) := by
        rw [ext_mkB, List.drop_take]
        congr 1
        rcases Nat.le_total (i + 60000) d.size with h | h
        · rw [Nat.min_eq_left h, show i + 60000 - i = 60000 by omega]
        · rw [Nat.min_eq_right h, List.take_of_length_le (by rw [List.length_drop]; omega), List.take_of_length_le (by rw [List.length_drop]; omega)]
      have e2 : ((d.data.toList.drop i).take 60000).length ≤ 60000 := by rw [List.length_take]; omega
      have e3 : (acc ++ frame ((d.data.toList.drop i).take 60000)).length + 70000 * m ≤ 1099511627776 := by
        rw [List.length_append, Crc.frame_length]
        generalize ((d.data.toList.drop i).take 60000).length = q at e2
        omega
      rw [e1, refframe_at _ (by rw [mkB_size]; omega), Option.bind_some, mkB_list, if_pos (by rw [mkB_size, mkB_size, Crc.frame_length]; omega), mkB_append, ih (i + 60000) k (acc ++ frame ((d.data.toList.drop i).take 60000)) a1 a2 a3 e3]
      have hne : d.data.toList.drop i ≠ [] := fun e => by
        have := congrArg List.length e
        rw [List.length_drop] at this
        simp at this
        omega
      rw [Crc.cutsL_step _ hne, Crc.framesL_cons, List.drop_drop, List.append_assoc]
    · rw [if_neg (by omega), List.drop_eq_nil_of_le (by rw [PK.toList_size]; omega)]
      simp [Crc.cutsL_nil, framesL]
theorem file_at (n k : Nat) (d : ByteArray) (hn : n ≤ 99999999) (hd : d.size ≤ 960000) (hk : 30 ≤ k) : affluxref26_File.f k (n : Int) d = some (PK.fileB n d) := by
  unfold affluxref26_File.f
  have h1 := Crc.numL_length n
  have h2 := Crc.numL_length d.size
  rw [size_at n k (by omega) (by omega), Option.bind_some, size_at d.size k (by omega) (by omega), Option.bind_some, if_pos (by rw [mkB_size, mkB_size]; omega), mkB_append, refframe_at (mkB (numL n ++ numL d.size)) (by rw [mkB_size, List.length_append]; omega), Option.bind_some, mkB_list]
  have := file_l0 d (by omega) 17 0 k (frame (numL n ++ numL d.size)) (by omega) (by omega) (by omega) (by rw [Crc.frame_length, List.length_append]; omega)
  rw [List.drop_zero] at this
  rw [show (0 : Int) = ((0 : Nat) : Int) from rfl, this]
  unfold PK.fileB Crc.fileL
  rw [PK.toList_size]
theorem cat_drop (l : List ByteArray) (i : Nat) (h : i < l.length) : PK.catS (l.drop i) = l[i] ++ PK.catS (l.drop (i + 1)) := by
  rw [List.drop_eq_getElem_cons h]
  generalize l.drop (i + 1) = r
  generalize l[i] = x
  apply ByteArray.ext
  unfold PK.catS
  simp
theorem cat_nil' : PK.catS [] = ⟨#[]⟩ := rfl
theorem app_e (a : ByteArray) : a ++ (⟨#[]⟩ : ByteArray) = a := by
  apply ByteArray.ext
  simp
/-- The reference's data: as it is told, or not. -/
theorem data_l0 (n : Nat) (hn : n ≤ 99999999) (s : ByteArray) (l : List ByteArray) (D : ByteArray) (hD : D.size ≤ 1073741824) (m : Nat) : ∀ (i k : Nat) (acc : ByteArray), 1 ≤ i → i + m = l.length → m + 40 ≤ k → l.length ≤ 1073741824 → acc ++ PK.catS (l.drop i) = D →
    affluxref26_Data.l0 k (n : Int) s l acc (i : Int) = some (D, decide (D.size ≤ 960000) && ((PK.fileB n D).toList == s.toList)) := by
  induction m with
  | zero =>
    intro i k acc hi hm hk hl hacc
    obtain ⟨k, rfl⟩ : ∃ q, k = q + 1 := ⟨k - 1, by omega⟩
    unfold affluxref26_Data.l0
    rw [List.drop_of_length_le (by omega), cat_nil', app_e] at hacc
    subst hacc
    rw [if_neg (by omega)]
    by_cases h : acc.size ≤ 960000
    · rw [if_pos (by omega), file_at n k acc hn h (by omega), Option.bind_some, decide_eq_true h, Bool.true_and]
    · rw [if_neg (by omega), decide_eq_false h, Bool.false_and]
  | succ m ih =>
    intro i k acc hi hm hk hl hacc
    obtain ⟨k, rfl⟩ : ∃ q, k = q + 1 := ⟨k - 1, by omega⟩
    have hlt : i < l.length := by omega
    unfold affluxref26_Data.l0
    rw [cat_drop l i hlt, ← ByteArray.append_assoc] at hacc
    have hsz : acc.size + l[i].size ≤ D.size := by
      rw [← hacc, ByteArray.size_append, ByteArray.size_append]
      omega
    rw [if_pos (by omega), if_pos (by omega), PK.rdS_at l i hlt, if_pos (by omega), wrap64_id _ (by omega) (by omega), show (i : Int) + 1 = ((i + 1 : Nat) : Int) by omega]
    exact ih (i + 1) k _ (by omega) (by omega) (by omega) hl hacc
theorem data_at (n : Nat) (hn : n ≤ 99999999) (s : ByteArray) (hs : s.size ≤ 1073741824) (k : Nat) (hk : s.size + 60 ≤ k) : ∃ r : ByteArray × Bool, affluxref26_Data.f k (n : Int) s = some r ∧ r.2 = (PK.dataB n s).isSome ∧ ∀ d, PK.dataB n s = some d → r.1 = d := by
  unfold affluxref26_Data.f
  have hno := PK.dataB_no n s
  have hye := PK.dataB_yes n s
  have hcnt := PK.allK_count s.data.toList.length s.data.toList
  rw [ref_all_at s hs k (by omega), Option.bind_some]
  have hl : (allB s).1.length ≤ s.size := by
    unfold allB
    rw [List.length_map]
    rw [PK.toList_size] at hcnt
    exact hcnt
  generalize allB s = a at hno hye hl ⊢
  obtain ⟨l, at_, y⟩ := a
  dsimp only at hno hye hl ⊢
  obtain ⟨k, rfl⟩ : ∃ q, k = q + 1 := ⟨k - 1, by omega⟩
  by_cases hy : y = 0
  · subst hy
    rw [if_pos rfl]
    unfold affluxref26_Data.j0
    dsimp only
    cases l with
    | nil =>
      rw [if_pos (by simp)]
      refine ⟨_, rfl, ?_, fun d hd => ?_⟩
      · rw [hno (.inr rfl)]; rfl
      · rw [hno (.inr rfl)] at hd; cases hd
    | cons x r =>
      obtain ⟨h1, h2, h3⟩ := hye x r rfl rfl
      rw [if_neg (by simp; omega)]
      have hD : (PK.catS r).size ≤ 1073741824 := by rw [PK.catS_size]; omega
      have h9 := data_l0 n hn s (x :: r) (PK.catS r) hD r.length 1 k ⟨#[]⟩ (by omega) (by simp; omega) (by simp at hl; omega) (by simp at hl ⊢; omega) (by rw [List.drop_succ_cons, List.drop_zero, PK.empty_app])
      rw [show (1 : Int) = ((1 : Nat) : Int) from rfl, h9]
      refine ⟨_, rfl, ?_, fun d hd => ?_⟩
      · rw [h1]
        by_cases hc : (PK.catS r).size ≤ 960000 ∧ PK.fileB n (PK.catS r) = s
        · rw [if_pos hc]
          dsimp only
          rw [decide_eq_true hc.1, hc.2, show (s.toList == s.toList) = true by simp]
          rfl
        · rw [if_neg hc]
          dsimp only
          by_cases h4 : (PK.catS r).size ≤ 960000
          · rw [decide_eq_true h4, PK.str_ne (fun e => hc ⟨h4, e⟩)]
            rfl
          · rw [decide_eq_false h4]
            rfl
      · rw [h1] at hd
        split at hd
        · exact Option.some.inj hd
        · cases hd
  · rw [if_neg hy]
    unfold affluxref26_Data.j0
    dsimp only
    rw [if_pos rfl]
    refine ⟨_, rfl, ?_, fun d hd => ?_⟩
    · rw [hno (.inl hy)]; rfl
    · rw [hno (.inl hy)] at hd; cases hd
/-- A number's digits, the lowest first. -/
def lows : Nat → Nat → List Int
  | 0, _ => []
  | j + 1, m => if m = 0 then [] else ((m % 10 : Nat) : Int) :: lows j (m / 10)
theorem lows_zero (j : Nat) : lows j 0 = [] := by cases j <;> rfl
theorem lows_len : ∀ j m, (lows j m).length ≤ j
  | 0, _ => Nat.le_refl _
  | j + 1, m => by
    unfold lows
    split
    · exact Nat.zero_le _
    · have := lows_len j (m / 10)
      simp only [List.length_cons]
      omega
theorem lows_dig : ∀ j m, ∀ x ∈ lows j m, 0 ≤ x ∧ x < 10
  | 0, _, x, h => by cases h
  | j + 1, m, x, h => by
    unfold lows at h
    split at h
    · cases h
    · rcases List.mem_cons.1 h with rfl | h
      · omega
      · exact lows_dig j (m / 10) x h
theorem dec_lows : ∀ j m, Crc.decK j m = ((lows j m).reverse.map fun d => UInt8.ofNat (48 + d.toNat))
  | 0, _ => rfl
  | j + 1, m => by
    unfold Crc.decK lows
    split
    · rfl
    · rw [dec_lows j (m / 10)]
      have e : ((m : Int) % 10).toNat = m % 10 := by omega
      simp [e]
theorem trim_at (l : List Int) (k : Nat) (hk : 1 ≤ k) (hl : l.length ≤ 1000) (h : l = [] ∨ rd l ((l.length : Int) - 1) ≠ 0) : affluxref01_trim.f k l = some l := by
  obtain ⟨k, rfl⟩ : ∃ q, k = q + 1 := ⟨k - 1, by omega⟩
  unfold affluxref01_trim.f affluxref01_trim.l0
  rcases h with rfl | h
  · rw [if_neg (by simp)]
  · by_cases h0 : l.length = 0
    · rw [if_neg (by omega)]
    · rw [if_pos (by omega), wrap64_id _ (by omega) (by omega), if_pos (by omega), if_pos (by omega), if_neg h]
theorem rd_last (l : List Int) (x : Int) : rd (l ++ [x]) (((l ++ [x]).length : Int) - 1) = x := by
  have : (((l ++ [x]).length : Int) - 1) = ((l.length : Nat) : Int) := by simp
  rw [this]
  simp [rd, List.getD]
theorem of_l0 (n : Nat) (j : Nat) : ∀ (m k : Nat) (acc : List Int), m < 10 ^ j → m < 18446744073709551616 → j + 3 ≤ k → acc.length + j ≤ 100 → (m ≠ 0 ∨ acc = [] ∨ rd acc ((acc.length : Int) - 1) ≠ 0) → affluxref01_Of.l0 k (n : Int) (m : Int) acc = some (false, acc ++ lows j m) := by
  induction j with
  | zero =>
    intro m k acc hm _ hk ha h
    have h0 : m = 0 := by simpa using hm
    subst h0
    obtain ⟨k, rfl⟩ : ∃ q, k = q + 1 := ⟨k - 1, by omega⟩
    unfold affluxref01_Of.l0
    rw [if_neg (by omega), decide_eq_false (by omega)]
    unfold affluxref01_sign.f
    rw [trim_at acc k (by omega) (by omega) (h.resolve_left (by omega)), Option.bind_some, if_neg (by decide), Option.bind_some, lows_zero, List.append_nil]
  | succ j ih =>
    intro m k acc hm hm2 hk ha h
    obtain ⟨k, rfl⟩ : ∃ q, k = q + 1 := ⟨k - 1, by omega⟩
    unfold affluxref01_Of.l0
    by_cases h0 : m = 0
    · subst h0
      rw [if_neg (by omega), decide_eq_false (by omega)]
      unfold affluxref01_sign.f
      rw [trim_at acc k (by omega) (by omega) (h.resolve_left (by omega)), Option.bind_some, if_neg (by decide), Option.bind_some, lows_zero, List.append_nil]
    · have e1 : IntKind.u64.wrap (Int.tdiv (m : Int) 10) = ((m / 10 : Nat) : Int) := by rw [Int.tdiv_eq_ediv_of_nonneg (by omega), IntKind.wrap_u64]; omega
      have e2 : wrap64 (Int.tmod (m : Int) 10) = ((m % 10 : Nat) : Int) := by rw [Int.tmod_eq_emod_of_nonneg (by omega), wrap64_id _ (by omega) (by omega)]; omega
      rw [if_pos (by omega), if_pos (by omega), e1, e2, ih (m / 10) k _ (by rw [Nat.pow_succ] at hm; exact Nat.div_lt_of_lt_mul (by omega)) (by omega) (by omega) (by simp; omega) (by
        by_cases h1 : m / 10 = 0
        · right; right
          rw [rd_last]
          omega
        · exact .inl h1)]
      have e3 : lows (j + 1) m = ((m % 10 : Nat) : Int) :: lows j (m / 10) := by
        conv => lhs; unfold lows
        rw [if_neg h0]
      rw [e3, List.append_assoc]
      rfl
theorem of_at (n k : Nat) (hn : n ≤ 99999999) (hk : 20 ≤ k) : affluxref01_Of.f k (n : Int) = some (false, lows 8 n) := by
  unfold affluxref01_Of.f
  obtain ⟨k, rfl⟩ : ∃ q, k = q + 1 := ⟨k - 1, by omega⟩
  rw [if_neg (by omega), show IntKind.u64.wrap (n : Int) = (n : Int) by rw [IntKind.wrap_u64]; omega]
  unfold affluxref01_Of.j0
  dsimp only
  rw [of_l0 n 8 n k [] (by omega) (by omega) (by omega) (by simp) (.inr (.inl rfl)), List.nil_append]
theorem print_l0 (D : List Int) (hD : ∀ x ∈ D, 0 ≤ x ∧ x < 10) (hl : D.length ≤ 100) (m : Nat) : ∀ (i k : Nat) (acc : List UInt8), i + m = D.length → m + 1 ≤ k → acc.length + m ≤ 1000 → affluxref01_Print.l0 k (mkB acc) (i : Int) false D = some (mkB (((D.drop i).reverse.map fun d => UInt8.ofNat (48 + d.toNat)) ++ acc)) := by
  induction m with
  | zero =>
    intro i k acc hi hk ha
    obtain ⟨k, rfl⟩ : ∃ q, k = q + 1 := ⟨k - 1, by omega⟩
    unfold affluxref01_Print.l0
    rw [if_neg (by omega), if_neg (by decide), List.drop_of_length_le (by omega)]
    rfl
  | succ m ih =>
    intro i k acc hi hk ha
    obtain ⟨k, rfl⟩ : ∃ q, k = q + 1 := ⟨k - 1, by omega⟩
    have hlt : i < D.length := by omega
    have hx := hD D[i] (List.getElem_mem hlt)
    have hr : rd D (i : Int) = D[i] := by simp [rd, List.getD, hlt]
    have e1 : wrap64 (48 + rd D (i : Int)) % 256 = ((48 + D[i].toNat : Nat) : Int) := by rw [hr, wrap64_id _ (by omega) (by omega)]; omega
    unfold affluxref01_Print.l0
    rw [if_pos (by omega), if_pos (by omega), Option.bind_some, e1, str_one, if_pos (by rw [mkB_size, mkB_size]; simp; omega), wrap64_id _ (by omega) (by omega), show (i : Int) + 1 = ((i + 1 : Nat) : Int) by omega, mkB_append, ih (i + 1) k _ (by omega) (by omega) (by simp; omega), List.drop_eq_getElem_cons hlt]
    simp only [List.reverse_cons, List.map_append, List.map_cons, List.map_nil, List.append_assoc, List.cons_append, List.nil_append]
theorem print_at (n k : Nat) (hn : n ≤ 99999999) (hk : 30 ≤ k) : affluxref01_Print.f k (n : Int) = some (mkB (Crc.decL n)) := by
  unfold affluxref01_Print.f
  rw [of_at n k hn (by omega), Option.bind_some]
  have hl := lows_len 8 n
  unfold Crc.decL
  by_cases h0 : n = 0
  · subst h0
    rw [lows_zero]
    rfl
  · have hne : (lows 8 n).length ≠ 0 := by
      intro e
      have : lows 8 n = [] := List.eq_nil_of_length_eq_zero e
      unfold lows at this
      rw [if_neg h0] at this
      cases this
    rw [if_neg h0]
    dsimp only
    rw [if_neg (by omega)]
    have := print_l0 (lows 8 n) (lows_dig 8 n) (by omega) (lows 8 n).length 0 k [] (by omega) (by omega) (by simp; omega)
    rw [List.drop_zero, List.append_nil, ← dec_lows] at this
    exact this
theorem name_l0 (m : Nat) : ∀ (k : Nat) (acc : List UInt8), acc.length + m = 8 → m + 1 ≤ k → affluxref26_Name.l0 k (mkB acc) = some (mkB ([115, 46] ++ (List.replicate m 48 ++ acc))) := by
  induction m with
  | zero =>
    intro k acc ha hk
    obtain ⟨k, rfl⟩ : ∃ q, k = q + 1 := ⟨k - 1, by omega⟩
    unfold affluxref26_Name.l0
    rw [mkB_size, if_neg (by omega), if_pos (by omega), show (⟨#[115, 46]⟩ : ByteArray) = mkB [115, 46] from rfl, mkB_append]
    rfl
  | succ m ih =>
    intro k acc ha hk
    obtain ⟨k, rfl⟩ : ∃ q, k = q + 1 := ⟨k - 1, by omega⟩
    unfold affluxref26_Name.l0
    rw [mkB_size, if_pos (by omega), if_pos (by omega), show (⟨#[48]⟩ : ByteArray) = mkB [48] from rfl, mkB_append, ih k _ (by simp; omega) (by omega), List.replicate_succ']
    simp
theorem name_at (n k : Nat) (hn : n ≤ 99999999) (hk : 30 ≤ k) : affluxref26_Name.f k (n : Int) = some (PK.nameN n) := by
  unfold affluxref26_Name.f
  have hp := Crc.pad_decL n hn
  rw [print_at n k hn hk, Option.bind_some, name_l0 (8 - (Crc.decL n).length) k _ (by omega) (by omega), hp.2]
  rfl
theorem bt_one (c : UInt8) : bt (mkB [c]) 0 = ((c.toNat : Nat) : Int) := by
  have := PA.bt_list (mkB [c]) 0
  exact this
theorem bt_mk (l : List UInt8) (i : Nat) (h : i < l.length) : bt (mkB l) (i : Int) = ((l[i].toNat : Nat) : Int) := by
  have h9 := PA.bt_list (mkB l) i
  rw [h9, mkB_list]
  simp [List.getD, h]
theorem part_l0 (c : UInt8) (s r : List UInt8) (hc : s.length = c.toNat) (h8 : c.toNat ≤ 8) (m : Nat) : ∀ (i k : Nat), i + m = s.length → m + 15 ≤ k →
    affluxref04_Part_number.l0 k (mkB [c]) (mkB s) ((Crc.val (s.take i) : Nat) : Int) (i : Int) (mkB r) false = if (mkB (numL (Crc.val s))).toList = (mkB (c :: s)).toList then some (((Crc.val s : Nat) : Int), mkB r, false) else some (0, mkB r, true) := by
  induction m with
  | zero =>
    intro i k hi hk
    obtain ⟨k, rfl⟩ : ∃ q, k = q + 1 := ⟨k - 1, by omega⟩
    have hv := PK.val_lt 8 s (by omega)
    unfold affluxref04_Part_number.l0
    rw [mkB_size, if_neg (by omega), if_neg (by decide), List.take_of_length_le (by omega), number_at (Crc.val s) k (by omega) (by omega), Option.bind_some, if_pos (by rw [mkB_size]; simp; omega), mkB_append]
    obtain ⟨k, rfl⟩ : ∃ q, k = q + 1 := ⟨k - 1, by omega⟩
    unfold affluxref04_Part_number.j2
    dsimp only
    have e : ([c] ++ s : List UInt8) = c :: s := rfl
    rw [e]
    by_cases h : (mkB (numL (Crc.val s))).toList = (mkB (c :: s)).toList
    · rw [if_pos h, h]
      simp
    · rw [if_neg h, if_pos (by simp [h])]
  | succ m ih =>
    intro i k hi hk
    obtain ⟨k, rfl⟩ : ∃ q, k = q + 1 := ⟨k - 1, by omega⟩
    have hlt : i < s.length := by omega
    have hb := (s[i]).toNat_lt
    have hv := PK.val_lt 7 (s.take i) (by rw [List.length_take]; omega)
    have ht := PK.val_take s i hlt
    unfold affluxref04_Part_number.l0
    rw [mkB_size, if_pos (by omega), if_pos (by omega), bt_mk s i hlt]
    have e1 : IntKind.u64.wrap (256 * ((Crc.val (s.take i) : Nat) : Int)) = 256 * ((Crc.val (s.take i) : Nat) : Int) := by rw [IntKind.wrap_u64]; omega
    have e2 : IntKind.u64.wrap (((s[i].toNat : Nat) : Int)) = ((s[i].toNat : Nat) : Int) := by rw [IntKind.wrap_u64]; omega
    have e3 : IntKind.u64.wrap (256 * ((Crc.val (s.take i) : Nat) : Int) + ((s[i].toNat : Nat) : Int)) = ((Crc.val (s.take (i + 1)) : Nat) : Int) := by rw [IntKind.wrap_u64, ht]; omega
    rw [e1, e2, e3, wrap64_id _ (by omega) (by omega), show (i : Int) + 1 = ((i + 1 : Nat) : Int) by omega]
    exact ih (i + 1) k (by omega) (by omega)
theorem part_number (l : List UInt8) (k : Nat) (hk : 40 ≤ k) : ∃ v x bad, affluxref04_Part_number.f k (mkB l) false = some (v, x, bad) ∧ (∀ n r, Crc.takeNum l = some (n, r) → v = (n : Int) ∧ x = mkB r ∧ bad = false) ∧ (Crc.takeNum l = none → bad = true) := by
  obtain ⟨k, rfl⟩ : ∃ q, k = q + 1 := ⟨k - 1, by omega⟩
  unfold affluxref04_Part_number.f affluxref04_Part_cut.f
  rw [if_neg (by decide)]
  cases l with
  | nil =>
    rw [if_pos (by decide), Option.bind_some]
    dsimp only
    rw [if_pos rfl]
    unfold affluxref04_Part_number.j0
    dsimp only
    rw [if_pos rfl]
    exact ⟨_, _, _, rfl, fun n r h => (by cases h), fun _ => rfl⟩
  | cons c r =>
    have hc := c.toNat_lt
    rw [if_neg (by rw [mkB_size]; simp; omega), if_pos (by decide), if_pos (by rw [mkB_size]; simp; omega), Option.bind_some]
    have e1 : (mkB (c :: r)).extract 0 (1 : Int).toNat = mkB [c] := by rw [ext_mkB]; rfl
    have e2 : (mkB (c :: r)).extract (1 : Int).toNat (mkB (c :: r)).size = mkB r := by rw [drop_ext]; rfl
    rw [e1, e2]
    dsimp only
    rw [if_neg (by decide), if_pos (by rw [mkB_size]; simp), bt_one]
    unfold affluxref04_Part_number.j0
    dsimp only
    by_cases h8 : 8 < c.toNat
    · rw [if_pos (by simp; omega)]
      refine ⟨_, _, _, rfl, fun n r h => ?_, fun _ => rfl⟩
      unfold Crc.takeNum at h
      simp only at h
      rw [if_neg (by rintro ⟨h1, _⟩; omega)] at h
      cases h
    · rw [if_neg (by simp; omega), if_pos (by rw [mkB_size]; simp), bt_one, wrap64_id _ (by omega) (by omega)]
      unfold affluxref04_Part_cut.f
      rw [if_neg (by decide), mkB_size]
      by_cases hl : r.length < c.toNat
      · rw [if_pos (by omega), Option.bind_some]
        dsimp only
        obtain ⟨k, rfl⟩ : ∃ q, k = q + 1 := ⟨k - 1, by omega⟩
        unfold affluxref04_Part_number.l0
        rw [if_neg (by decide), if_pos rfl]
        obtain ⟨k, rfl⟩ : ∃ q, k = q + 1 := ⟨k - 1, by omega⟩
        unfold affluxref04_Part_number.j2
        dsimp only
        rw [if_neg (by decide), if_pos rfl]
        refine ⟨_, _, _, rfl, fun n r h => ?_, fun _ => rfl⟩
        unfold Crc.takeNum at h
        simp only at h
        rw [if_neg (by rintro ⟨_, h1, _⟩; omega)] at h
        cases h
      · rw [if_neg (by omega), if_pos (by omega), if_pos (by omega), Option.bind_some]
        have e3 : (mkB r).extract 0 ((c.toNat : Nat) : Int).toNat = mkB (r.take c.toNat) := by rw [ext_mkB, List.drop_zero, mkB_list, Int.toNat_natCast]
        have e4 : (mkB r).extract ((c.toNat : Nat) : Int).toNat r.length = mkB (r.drop c.toNat) := by
          have := drop_ext (mkB r) ((c.toNat : Nat) : Int).toNat
          rw [mkB_size, mkB_list, Int.toNat_natCast] at this
          rw [Int.toNat_natCast]
          exact this
        rw [e3, e4]
        dsimp only
        have hsl : (r.take c.toNat).length = c.toNat := by rw [List.length_take]; omega
        have h9 := part_l0 c (r.take c.toNat) (r.drop c.toNat) hsl (by omega) (r.take c.toNat).length 0 k (by omega) (by omega)
        rw [List.take_zero] at h9
        have h9' : affluxref04_Part_number.l0 k (mkB [c]) (mkB (r.take c.toNat)) 0 0 (mkB (r.drop c.toNat)) false = _ := h9
        rw [h9']
        have htn : Crc.takeNum (c :: r) = if (r.take c.toNat).head? ≠ some 0 then some (Crc.val (r.take c.toNat), r.drop c.toNat) else none := by
          unfold Crc.takeNum
          simp only
          by_cases h0 : (r.take c.toNat).head? ≠ some 0
          · rw [if_pos ⟨by omega, by omega, h0⟩, if_pos h0]
          · rw [if_neg (fun h => h0 h.2.2), if_neg h0]
        rw [htn]
        by_cases h0 : (r.take c.toNat).head? ≠ some 0
        · have hnv := Crc.numL_val c (r.take c.toNat) hsl (by omega) h0
          rw [if_pos (by rw [hnv]), if_pos h0]
          exact ⟨_, _, _, rfl, fun n r h => by injection h with h; injection h with h1 h2; exact ⟨by rw [h1], by rw [h2], rfl⟩, fun h => by cases h⟩
        · have hne : ¬ (mkB (numL (Crc.val (r.take c.toNat)))).toList = (mkB (c :: r.take c.toNat)).toList := by
            rw [PA.toList_mkB, PA.toList_mkB]
            intro e
            unfold Crc.numL at e
            injection e with _ e
            have := Crc.beK_head 8 (Crc.val (r.take c.toNat)) (by have := PK.val_lt 8 (r.take c.toNat) (by omega); exact this)
            rw [e] at this
            exact h0 this
          rw [if_neg hne, if_neg h0]
          exact ⟨_, _, _, rfl, fun n r h => (by cases h), fun _ => rfl⟩
/-- The reference's Size, of a mark's text. -/
theorem part_size (l : List UInt8) (k : Nat) (hk : 41 ≤ k) : ∃ v x bad, affluxref04_Part_Size.f k (mkB l) false 99999999 = some (v, x, bad) ∧ (Crc.markNum l).isSome = (!bad && decide (x.size = 0)) ∧ ∀ n, Crc.markNum l = some n → v = (n : Int) := by
  obtain ⟨v, x, bad, h1, h2, h3⟩ := part_number l k (by omega)
  unfold affluxref04_Part_Size.f
  rw [h1, Option.bind_some, if_neg (by decide)]
  dsimp only
  obtain ⟨k, rfl⟩ : ∃ q, k = q + 1 := ⟨k - 1, by omega⟩
  unfold affluxref04_Part_Size.j0
  dsimp only
  have hw : IntKind.u64.wrap 99999999 = 99999999 := by rw [IntKind.wrap_u64]; decide
  rw [hw]
  unfold Crc.markNum
  cases ht : Crc.takeNum l with
  | none =>
    have hb := h3 ht
    subst hb
    by_cases hv : v > 99999999
    · rw [if_pos (by simp; omega)]
      exact ⟨_, _, _, rfl, rfl, fun n h => by cases h⟩
    · rw [if_neg (by simp; omega), if_pos rfl]
      exact ⟨_, _, _, rfl, rfl, fun n h => by cases h⟩
  | some p =>
    obtain ⟨n, r⟩ := p
    obtain ⟨rfl, rfl, rfl⟩ := h2 n r ht
    have hnl : n < 18446744073709551616 := by
      have := PK.numR_lt l
      unfold PK.numR at this
      rw [ht] at this
      exact this
    by_cases hv : 99999999 < n
    · rw [if_pos (by simp; omega)]
      refine ⟨_, _, _, rfl, ?_, fun m h => ?_⟩
      · cases r with
        | nil => simp only; rw [if_neg (by omega)]; rfl
        | cons a r => rfl
      · cases r with
        | nil => simp only at h; rw [if_neg (by omega)] at h; cases h
        | cons a r => cases h
    · rw [if_neg (by simp; omega), if_neg (by decide), wrap64_id _ (by omega) (by omega)]
      refine ⟨_, _, _, rfl, ?_, fun m h => ?_⟩
      · cases r with
        | nil => simp only; rw [if_pos (by omega)]; rfl
        | cons a r => rfl
      · cases r with
        | nil => simp only at h; rw [if_pos (by omega)] at h; injection h with h; rw [h]
        | cons a r => cases h
end Go.Proofs.YtcbbdkennmopdaaGreatDoor.PB
/- The document's answer for a mark: the walk of affluxref26.Marked. -/
namespace Go.Proofs.YtcbbdkennmopdaaGreatDoor.PK
open Go.RowKit Go.Proofs.YtcbbdkennmopdaaGreatDoorW.PrintWords Go.Proofs.YtcbbdkennmopdaaGreatDoorW.PrintLast Go.Proofs.YtcbbdkennmopdaaGreatDoorW.PrintMore
open Go.Maps
set_option maxHeartbeats 1000000 in
set_option maxRecDepth 100000 in
theorem markedR_calls (s : ByteArray) (w : World) (hs : s.size ≤ 1000000) : Calls Tryz.prog 25 #[.string s] w (MarkPost s w) := by
  have HAC := Aside0.mk (PB.affluxref05_All.calls (s.size + 10) s (PA.allB s).1 (PA.allB s).2.1 (PA.allB s).2.2 w (PB.ref_all_at s (by omega) _ (Nat.le_refl _)))
  have HNO := Aside0.mk (marked_no s)
  have HON := Aside0.mk (marked_one s)
  generalize PA.allB s = al at HAC HNO HON
  obtain ⟨l, at_, y⟩ := al
  dsimp only at HAC HNO HON
  have HP : Aside0 (∀ e w', (∃ v : Int, e = .returned (.tuple #[.int .i64 v, .bool (markedB s).isSome]) ∧ (∀ n, markedB s = some n → v = (n : Int)) ∧ Below w.heap.size w w') → MarkPost s w e w') := ⟨fun e w' h => h⟩
  by_cases hy : y = 0
  · by_cases hl : l.length = 1
    · obtain ⟨x, rfl⟩ : ∃ x, l = [x] := by
        match l, hl with
        | [x], _ => exact ⟨x, rfl⟩
      subst hy
      have HM := Aside0.mk (HON.out x rfl rfl)
      clear hl HNO HON
      obtain ⟨v, r, bad, q1, q2, q3⟩ := PB.part_size x.data.toList 41 (by omega)
      have HQ := Aside0.mk (And.intro q2 q3)
      have hmk : Crc.mkB x.data.toList = x := ByteArray.ext rfl
      rw [hmk] at q1
      have HPS : Aside0 (∀ g w', PB.IsS126 w w' g x false → Below w.heap.size w w' → Calls Tryz.prog 88 #[.pointer (some ⟨g, 0, none⟩), .int .i64 99999999] w' fun e w'' => e = .returned (.int .i64 v) ∧ PB.IsS126 w w'' g r bad ∧ Below w.heap.size w w'') := ⟨fun g w' h1 h2 => (PB.affluxref04_Part_Size.calls 41 g x false 99999999 v r bad w w' h1 h2 q1).mono fun e w'' hq => ⟨hq.1, hq.2.1, hq.2.2.1⟩⟩
      clear q1 q2 q3 hmk
      go_enter Tryz.func25, Tryz.ntmps25
      go_wp2_with fail
      refine HAC.out.mono ?_
      rintro e w1 ⟨v1, rfl, hr1, hb1⟩
      obtain ⟨A, c, rfl⟩ := Kd.R_slice hr1
      obtain ⟨ad, e0, hx⟩ := Kd.at_string (Kd.R_reads' hr1).2.2 0 (by decide) (by simp)
      subst e0
      have hx2 : w1.cell? ad = some (.string x) := by
        have e8 : ad.add 0 = ad := by simp [Addr.add]
        simp only [Int.toNat_zero] at hx
        rw [e8] at hx
        exact hx
      have HB1 := Aside0.mk hb1
      clear hr1 hb1 hx HAC
      go_wp2_with fail
      refine (HPS.out w1.heap.size _ ⟨blk_new w1 _, HB1.out.size⟩ (HB1.out.alloc HB1.out.size _)).mono ?_
      rintro e w2 ⟨rfl, hi2, hb2⟩
      generalize w1.heap.size = g at hi2 ⊢
      have HB2 := Aside0.mk hb2
      have hc0 := PB.cellS126_0 hi2.1
      have hc1 := PB.cellS126_1 hi2.1
      clear hb2 hi2 HPS
      cases bad with
      | true =>
        go_wp2_with fail
        go_quiet (fail)
        go_wp2
        go_ret2
        refine HP.out _ _ ⟨v, ?_, fun m hm => ?_, pw_below_drewN HB2.out _⟩
        · rw [HM.out, HQ.out.1]
          rfl
        · rw [HM.out] at hm
          exact HQ.out.2 m hm
      | false =>
        have HE : Aside0 (((r.size : Int) == 0) = decide (r.size = 0)) := ⟨by
          by_cases h0 : r.size = 0
          · rw [decide_eq_true h0, h0]; rfl
          · rw [decide_eq_false h0, beq_eq_false_iff_ne]; omega⟩
        go_wp2_with fail
        go_quiet (fail)
        go_wp2
        go_ret2
        refine HP.out _ _ ⟨v, ?_, fun m hm => ?_, pw_below_drewN HB2.out _⟩
        · rw [HM.out, HQ.out.1, ← HE.out]
          rfl
        · rw [HM.out] at hm
          exact HQ.out.2 m hm
    · subst hy
      have HN := Aside0.mk (HNO.out (.inr hl))
      clear HNO HON
      generalize hm : l.length = m at HAC hl
      have HM := Aside0.mk hm
      have hli : ¬ ((m : Int) = 1) := by omega
      clear hm hl
      go_enter Tryz.func25, Tryz.ntmps25
      go_wp2_with fail
      refine HAC.out.mono ?_
      rintro e w1 ⟨v, rfl, hr1, hb1⟩
      obtain ⟨A, c, rfl⟩ := Kd.R_slice hr1
      rw [HM.out]
      have HB1 := Aside0.mk hb1
      clear hr1 hb1 HAC
      go_wp2_with fail
      go_ret2
      exact HP.out _ _ ⟨0, by rw [HN.out]; rfl, (fun m hm => by rw [HN.out] at hm; cases hm), HB1.out⟩
  · have HN := Aside0.mk (HNO.out (.inl hy))
    clear HNO HON
    go_enter Tryz.func25, Tryz.ntmps25
    go_wp2_with fail
    refine HAC.out.mono ?_
    rintro e w1 ⟨v, rfl, hr1, hb1⟩
    obtain ⟨A, c, rfl⟩ := Kd.R_slice hr1
    have HB1 := Aside0.mk hb1
    clear hr1 hb1 HAC
    go_wp2_with fail
    go_ret2
    exact HP.out _ _ ⟨0, by rw [HN.out]; rfl, (fun m hm => by rw [HN.out] at hm; cases hm), HB1.out⟩
end Go.Proofs.YtcbbdkennmopdaaGreatDoor.PK
/- snap: the walk of SnapNone. -/
namespace Go.Proofs.YtcbbdkennmopdaaGreatDoor.PK
open Go.RowKit Go.Proofs.YtcbbdkennmopdaaGreatDoorW.PrintWords Go.Proofs.YtcbbdkennmopdaaGreatDoorW.PrintLast Go.Proofs.YtcbbdkennmopdaaGreatDoorW.PrintMore
open Go.Maps
theorem may_is (n : Int) : PR.affluxlaw26_may.f n = some (mayS n) := by
  unfold PR.affluxlaw26_may.f mayS
  by_cases h : n ≥ 0
  · rw [if_pos h, decide_eq_true (show 0 ≤ n from h), Bool.true_and]
  · rw [if_neg h, decide_eq_false (show ¬ 0 ≤ n from h), Bool.false_and]
end Go.Proofs.YtcbbdkennmopdaaGreatDoor.PK
/- snap: the walk of SnapLoads. -/
namespace Go.Proofs.YtcbbdkennmopdaaGreatDoor.PK
open Go.RowKit Go.Proofs.YtcbbdkennmopdaaGreatDoorW.PrintWords Go.Proofs.YtcbbdkennmopdaaGreatDoorW.PrintLast Go.Proofs.YtcbbdkennmopdaaGreatDoorW.PrintMore
open Go.Maps
theorem Lain.mono {s : DS} {mark : ByteArray} {c u c' u' : Nat} (h : Lain s mark c u) (h1 : c ≤ c') (h2 : u ≤ u') : Lain s mark c' u' := ⟨h.calm, h.asc, h.only, h.ok, h.mark, Nat.le_trans h.len h1, Nat.le_trans h.used h2⟩
theorem Lain.uses {s : DS} {mark : ByteArray} {c u : Nat} (h : Lain s mark c u) : s.uses < 800000 := by
  obtain ⟨fs, hc⟩ := h.calm
  have := hc.uses
  omega
theorem mayS_nat {x : Int} (h : mayS x = true) : ((x.toNat : Nat) : Int) = x ∧ x.toNat ≤ 99999999 := by
  unfold mayS at h
  simp only [Bool.and_eq_true, decide_eq_true_eq] at h
  omega
theorem refname_of {x : Int} (h : mayS x = true) : PB.affluxref26_Name.f 30 x = some (nameN x.toNat) := by
  obtain ⟨h1, h2⟩ := mayS_nat h
  have := PB.name_at x.toNat 30 h2 (by omega)
  rw [h1] at this
  exact this
theorem Lain.name {s : DS} {mark : ByteArray} {c u : Nat} (h : Lain s mark c u) (k : Nat) {x : ByteArray} (hx : x.size ≤ 3000) (hc : c < 100) (hu : u ≤ 200000) : Lain (putS s (nameN k) x).1 mark (c + 1) (u + 3000) := h.put (nameN_may k) (.inr (nameN_front k)) (ne_mark k) hx hc hu
theorem told_no {s : DS} {mark : ByteArray} (h : markedB mark = none) : toldL s mark = none := by
  unfold toldL
  rw [h]
theorem told_bad {s : DS} {mark : ByteArray} {k : Nat} (h : markedB mark = some k) (h1 : (readD s (nameN k)).2 ≠ 0) : toldL s mark = none := by
  unfold toldL
  rw [h]
  simp only
  rw [if_neg h1]
theorem told_of {s : DS} {mark : ByteArray} {k : Nat} (h : markedB mark = some k) (h1 : (readD s (nameN k)).2 = 0) : toldL s mark = (dataB k (readD s (nameN k)).1).map fun d => (k, d) := by
  unfold toldL
  rw [h]
  simp only
  rw [if_pos h1]
set_option maxHeartbeats 8000000 in
set_option maxRecDepth 100000 in
theorem SnapLoads_calls (mark : ByteArray) (n : Int) (file : ByteArray) (A : Option Addr) (c : Nat) (other : List Int) (fresh : Bool) (w : World) (hT : SumW.Tab w) (hC : Kd.C (Kd.int .i64) w A other.length other) : Calls Tryz.prog 5 #[.string mark, .int .i64 n, .string file, .slice A other.length c, .bool fresh] w fun e w' => e = .returned (.bool true) ∧ Below w.heap.size w w' := by
  have HTT := Aside0.mk hT
  have HC := Aside0.mk hC
  clear hT hC
  by_cases hb1 : mark.size ≤ 3000
  · have hn1 : ¬ ((mark.size : Int) > 3000) := by omega
    have HS1 := Aside0.mk hb1
    clear hb1
    by_cases hb2 : file.size ≤ 3000
    · have hn2 : ¬ ((file.size : Int) > 3000) := by omega
      have HS2 := Aside0.mk hb2
      clear hb2
      by_cases hb3 : other.length ≤ 10
      · have hn3 : ¬ ((other.length : Int) > 10) := by omega
        have HS3 := Aside0.mk hb3
        clear hb3
        have HNW : Aside0 (∀ w1, Below w.heap.size w w1 → Calls Tryz.prog 13 #[.int .i64 1048576] w1 fun e w' => e = .returned (.pointer (some ⟨w1.heap.size + 1, 0, none⟩)) ∧ RunK w w' (w1.heap.size + 1) w1.heap.size (newD 1048576) (fun _ => False)) := ⟨fun w1 hb => (new_S w w1 1048576 (by decide) (by decide) hb (fun _ => False) (fun _ h => h.elim)).mono fun e w' hq => ⟨hq.1, hq.2.1⟩⟩
        go_enter Tryz.func5, Tryz.ntmps5
        go_wp2_with fail
        refine (awake_calls w HTT.out).mono ?_
        rintro e w1 ⟨rfl, hb1⟩
        have HB1 := Aside0.mk hb1
        clear hb1
        go_wp2_with fail
        refine (HNW.out w1 HB1.out).mono ?_
        rintro e w2 ⟨rfl, hr2⟩
        generalize w1.heap.size + 1 = g at hr2 ⊢
        generalize w1.heap.size = b at hr2
        have HR2 := Aside0.mk hr2
        clear hr2 HNW
        go_wp2_with fail
        refine (put_S HR2.out sMark mark (by have := HS1.out; omega)).mono ?_
        rintro e w3 ⟨rfl, hr3, _⟩
        have HR3 := Aside0.mk hr3
        have HL3 := Aside0.mk (lain_first mark HS1.out)
        generalize (putS (newD 1048576) sMark mark).1 = s1 at HR3 HL3
        generalize (putS (newD 1048576) sMark mark).2 = e1
        clear hr3 HR2
        go_wp2_with fail
        refine (PR.affluxlaw26_may.calls n (mayS n) w3 (may_is n)).mono ?_
        rintro e w4 ⟨rfl, hd4⟩
        have HR4 := Aside0.mk (HR3.out.below (below_drawn (Below.refl _ _) hd4))
        clear hd4 HR3
        go_upto_if 50 with fail
        go_cut [] (fun wx => Aside0 (∃ s, RunK w wx g b s (fun _ => False) ∧ Lain s mark 2 6000))
        case first =>
          cases hm : mayS n with
          | true =>
            have HM := Aside0.mk hm
            clear hm
            go_wp2_with fail
            refine (PB.affluxref26_Name.calls 30 n (nameN n.toNat) w4 (refname_of HM.out)).mono ?_
            rintro e w5 ⟨rfl, hb5⟩
            have HR5 := Aside0.mk (HR4.out.below hb5)
            clear hb5
            go_wp2_with fail
            refine (put_S HR5.out (nameN n.toNat) file (by have := HS2.out; omega)).mono ?_
            rintro e w6 ⟨rfl, hr6, _⟩
            have HR6 := Aside0.mk hr6
            clear hr6
            generalize (putS s1 (nameN n.toNat) file).2 = e2
            go_wp2_with fail
            go_meet
            exact ⟨_, HR6.out, HL3.out.name _ HS2.out (by decide) (by decide)⟩
          | false =>
            clear hm
            go_wp2_with fail
            go_meet
            exact ⟨_, HR4.out, HL3.out.mono (by decide) (by decide)⟩
        case rest =>
          have HX0 := hcut
          clear hcut HR4 HL3
          go_wp2_with fail
          go_loopg [12] (other.length) (fun kq v12 w' => ∃ i : Nat, v12 = .int .i64 i ∧ Aside0 (i + kq = other.length) ∧ i ≤ other.length ∧ Aside0 (∃ s, RunK w w' g b s (fun _ => False) ∧ Lain s mark (2 + i) (6000 + 3000 * i)))
          case atStart => exact ⟨0, rfl, ⟨by omega⟩, Nat.zero_le _, HX0⟩
          case round =>
            obtain ⟨i, rfl, HQ, hi, HS⟩ := hrel
            obtain ⟨s, hrs, hls⟩ := HS.out
            have HRS := Aside0.mk hrs
            have HLS := Aside0.mk hls
            clear HS hrs hls HX0
            by_cases hlt : i < other.length
            · have hlti : (i : Int) < (other.length : Int) := by omega
              cases gk with
              | zero => exact absurd HQ.out (by omega)
              | succ k1 =>
                obtain ⟨ad, eA, hx⟩ := Kd.at_int (Kd.C_below HC.out HRS.out.bel) (i : Int) (by omega) (by omega)
                cases eA
                simp only [Int.toNat_natCast] at hx
                generalize rd other (i : Int) = x at hx
                have hwi : IntKind.i64.wrap ((i : Int) + 1) = (i : Int) + 1 := by rw [IntKind.wrap_i64]; have := HS3.out; omega
                have HI := Aside0.mk (And.intro hi hlt)
                clear hi hlt
                cases hm : mayS x with
                | false =>
                  have HM := Aside0.mk hm
                  clear hm
                  go_wp2_with fail
                  refine (PR.affluxlaw26_may.calls x false wr (by rw [may_is, HM.out])).mono ?_
                  rintro e w5 ⟨rfl, q5, rfl⟩
                  go_wp2_with fail
                  go_roundg k1
                  case measure => have := HQ.out; omega
                  case rel => exact ⟨i + 1, by go_num, ⟨by have := HQ.out; omega⟩, by have := HI.out; omega, ⟨s, HRS.out.below (pw_below_drewN (Below.refl _ _) _), HLS.out.mono (by omega) (by omega)⟩⟩
                | true =>
                  have HM := Aside0.mk hm
                  clear hm
                  by_cases hxn : x = n
                  · subst hxn
                    have hxx : (x == x) = true := by simp
                    have hxd : decide (x = x) = true := by simp
                    go_wp2_with fail
                    refine (PR.affluxlaw26_may.calls x true wr (by rw [may_is, HM.out])).mono ?_
                    rintro e w5 ⟨rfl, q5, rfl⟩
                    go_wp2_with fail
                    go_roundg k1
                    case measure => have := HQ.out; omega
                    case rel => exact ⟨i + 1, by go_num, ⟨by have := HQ.out; omega⟩, by have := HI.out; omega, ⟨s, HRS.out.below (pw_below_drewN (Below.refl _ _) _), HLS.out.mono (by omega) (by omega)⟩⟩
                  · have hxb : decide (x = n) = false := decide_eq_false hxn
                    go_wp2_with fail
                    refine (PR.affluxlaw26_may.calls x true wr (by rw [may_is, HM.out])).mono ?_
                    rintro e w5 ⟨rfl, q5, rfl⟩
                    have HR5 := Aside0.mk (HRS.out.below (pw_below_drewN (Below.refl _ _) q5))
                    go_wp2_with fail
                    refine (PB.affluxref26_Name.calls 30 x (nameN x.toNat) _ (refname_of HM.out)).mono ?_
                    rintro e w6 ⟨rfl, hb6⟩
                    have HR6 := Aside0.mk (HR5.out.below hb6)
                    clear hb6 hx
                    go_wp2_with fail
                    refine (put_S HR6.out (nameN x.toNat) ⟨#[120]⟩ (by decide)).mono ?_
                    rintro e w7 ⟨rfl, hr7, _⟩
                    have HR7 := Aside0.mk hr7
                    clear hr7
                    generalize (putS s (nameN x.toNat) ⟨#[120]⟩).2 = e7
                    go_wp2_with fail
                    go_roundg k1
                    case measure => have := HQ.out; omega
                    case rel => exact ⟨i + 1, by go_num, ⟨by have := HQ.out; omega⟩, by have := HI.out; omega, ⟨_, HR7.out, (HLS.out.name x.toNat (by decide) (by have := HI.out; have := HS3.out; omega) (by have := HI.out; have := HS3.out; omega)).mono (by omega) (by omega)⟩⟩
            · have hge : i = other.length := by omega
              subst hge
              clear hlt HQ hi
              go_upto_if 82 with fail
              go_cut [] (fun wx => Aside0 (∃ s, RunK w wx g b s (fun _ => False) ∧ Lain s mark 14 60000))
              case first =>
                cases fresh with
                | true =>
                  go_wp2_with fail
                  refine (put_S HRS.out sFresh ⟨#[121]⟩ (by decide)).mono ?_
                  rintro e w7 ⟨rfl, hr7, _⟩
                  have HR7 := Aside0.mk hr7
                  clear hr7
                  generalize (putS s sFresh ⟨#[121]⟩).2 = e7
                  go_wp2_with fail
                  go_meet
                  exact ⟨_, HR7.out, (HLS.out.put sFresh_may (.inl rfl) (fun e => mark_fresh e.symm) (by decide) (by have := HS3.out; omega) (by have := HS3.out; omega)).mono (by have := HS3.out; omega) (by have := HS3.out; omega)⟩
                | false =>
                  go_wp2_with fail
                  go_meet
                  exact ⟨s, HRS.out, HLS.out.mono (by have := HS3.out; omega) (by have := HS3.out; omega)⟩
              case rest =>
                clear HRS HLS
                obtain ⟨s4, hr4, hl4⟩ := hcut.out
                have HR4 := Aside0.mk hr4
                have HL4 := Aside0.mk hl4
                clear hcut hr4 hl4
                go_wp2_with fail
                refine (markedR_calls mark wc (by have := HS1.out; omega)).mono ?_
                rintro e w5 ⟨kv, rfl, hkv, hb5⟩
                have HKV := Aside0.mk hkv
                have HR5 := Aside0.mk (HR4.out.below hb5)
                clear hkv hb5
                go_upto_if 90 with fail
                go_cut [14, 15, 16, 17] (fun s14 s15 s16 s17 wx => ∃ data : ByteArray, s14 = .bool (toldL s4 mark).isSome ∧ s15 = .string data ∧ Aside0 (∀ k d, toldL s4 mark = some (k, d) → kv = (k : Int) ∧ data = d) ∧ Aside0 (RunK w wx g b s4 (fun _ => False)))
                case first =>
                  cases hm : markedB mark with
                  | none =>
                    have HT := Aside0.mk (told_no (s := s4) hm)
                    clear hm
                    go_wp2_with fail
                    go_meet
                    exact ⟨⟨#[]⟩, by rw [HT.out]; rfl, rfl, ⟨fun k d h => by rw [HT.out] at h; cases h⟩, HR5⟩
                  | some k =>
                    have hk := marked_le hm
                    have hkk := HKV.out k hm
                    subst hkk
                    have HK := Aside0.mk hk
                    have HT1 := Aside0.mk (told_bad (s := s4) hm)
                    have HT2 := Aside0.mk (told_of (s := s4) hm)
                    have HSZ := Aside0.mk (read_size HR5.out.good.1 (nameN k))
                    clear hm hk HKV
                    go_wp2_with fail
                    refine (PB.affluxref26_Name.calls 30 (k : Int) (nameN k) w5 (PB.name_at k 30 HK.out (by decide))).mono ?_
                    rintro e w6 ⟨rfl, hb6⟩
                    have HR6 := Aside0.mk (HR5.out.below hb6)
                    clear hb6
                    go_wp2_with fail
                    refine (read_S HR6.out (nameN k) (by rw [nameN_size]; decide)).mono ?_
                    rintro e w7 ⟨rfl, hw7⟩
                    subst hw7
                    generalize readD s4 (nameN k) = rr at HT1 HT2 HSZ ⊢
                    obtain ⟨x, e1⟩ := rr
                    dsimp only at HT1 HT2 HSZ ⊢
                    by_cases he1 : e1 = 0
                    · subst he1
                      obtain ⟨r, q1, q2, q3⟩ := PB.data_at k HK.out x (by have := HSZ.out; omega) (x.size + 60) (Nat.le_refl _)
                      obtain ⟨rd, rb⟩ := r
                      dsimp only at q2 q3
                      have HQ1 := Aside0.mk q1
                      have HQ2 := Aside0.mk (And.intro q2 q3)
                      clear q1 q2 q3
                      go_wp2_with fail
                      refine (PB.affluxref26_Data.calls (x.size + 60) (k : Int) x rd rb _ HQ1.out).mono ?_
                      rintro e w8 ⟨rfl, hb8⟩
                      have HR8 := Aside0.mk (HR6.out.below hb8)
                      clear hb8
                      go_wp2_with fail
                      go_meet
                      refine ⟨rd, ?_, rfl, ⟨fun k1 d1 h => ?_⟩, HR8⟩
                      · rw [HT2.out trivial, HQ2.out.1, Option.isSome_map]
                      · rw [HT2.out trivial] at h
                        obtain ⟨d2, h2, h3⟩ := Option.map_eq_some_iff.1 h
                        injection h3 with h3 h4
                        subst h3 h4
                        exact ⟨rfl, HQ2.out.2 _ h2⟩
                    · have heb : (e1 == 0) = false := beq_eq_false_iff_ne.2 he1
                      have hed : decide (e1 = 0) = false := decide_eq_false he1
                      have HT := Aside0.mk (HT1.out he1)
                      go_wp2_with fail
                      go_meet
                      exact ⟨⟨#[]⟩, by rw [HT.out]; rfl, rfl, ⟨fun k d h => by rw [HT.out] at h; cases h⟩, HR6⟩
                case rest =>
                  obtain ⟨data, rfl, rfl, HKD, HR6⟩ := hcut
                  clear HKV HR5 HR4
                  have hnl : (namesD s4 []).length = s4.files.length := by
                    rw [namesD_all]
                    show (s4.files.map (·.name)).length = _
                    rw [List.length_map]
                  cases ht : toldL s4 mark with
                  | none =>
                    obtain ⟨hl, hsw⟩ := lain_no HL4.out ht
                    have HLO : Aside0 (loadD s4 = (0, ⟨#[]⟩, 11)) := ⟨hl⟩
                    have HSW := Aside0.mk hsw
                    clear ht hl hsw hnl
                    go_wp2_with fail
                    refine (names_S HR6.out none 0 [] (nilC _)).mono ?_
                    rintro e w7 ⟨v7, rfl, hr7, hb7⟩
                    obtain ⟨A7, c7, rfl⟩ := Kd.R_slice hr7
                    have HR7 := Aside0.mk (HR6.out.below hb7)
                    clear hb7 hr7
                    go_wp2_with fail
                    refine (Load_calls HR7.out (HTT.out.below HR7.out.bel HTT.out.lt)).mono ?_
                    rintro e w8 ⟨rfl, hb8⟩
                    rw [HLO.out]
                    have HR8 := Aside0.mk (HR7.out.below hb8)
                    clear hb8
                    go_wp2_with fail
                    refine (Sweep_calls HR8.out HL4.out.uses HTT.out).mono ?_
                    rintro e w9 ⟨rfl, hr9, _⟩
                    rw [HSW.out] at hr9 ⊢
                    have HR9 := Aside0.mk hr9
                    clear hr9
                    go_wp2_with fail
                    refine (names_S HR9.out none 0 [] (nilC _)).mono ?_
                    rintro e w10 ⟨v10, rfl, hr10, hb10⟩
                    obtain ⟨A10, c10, rfl⟩ := Kd.R_slice hr10
                    have HB10 := Aside0.mk (below_step HR9.out.bel hb10)
                    clear hb10 hr10
                    go_wp2_with fail
                    go_ret
                    exact ⟨rfl, HB10.out⟩
                  | some p =>
                    obtain ⟨k, d⟩ := p
                    obtain ⟨hk1, hk2⟩ := HKD.out k d ht
                    subst hk1 hk2
                    obtain ⟨hk, hl, t, hsw, hnm, hlt⟩ := lain_yes HL4.out ht
                    have HLO := Aside0.mk (And.intro hk (And.intro hl hlt.1))
                    rw [← hnl] at hsw
                    have HSW := Aside0.mk hsw
                    have HNM := Aside0.mk hnm
                    have HLE := Aside0.mk (names_le HR6.out.good.1 [])
                    obtain ⟨N, hN⟩ : ∃ N, N = (namesD s4 []).length := ⟨_, rfl⟩
                    have HNN := Aside0.mk hN
                    rw [← hN] at HSW HLE
                    have hwN : IntKind.i64.wrap ((N : Int) - 2) = (N : Int) - 2 := by rw [IntKind.wrap_i64]; have := HLE.out; omega
                    have hdd := str_eq data
                    clear ht hl hsw hnl hk hlt hnm hN
                    go_wp2_with fail
                    refine (names_S HR6.out none 0 [] (nilC _)).mono ?_
                    rintro e w7 ⟨v7, rfl, hr7, hb7⟩
                    obtain ⟨A7, c7, rfl⟩ := Kd.R_slice hr7
                    rw [← HNN.out]
                    have HR7 := Aside0.mk (HR6.out.below hb7)
                    clear hb7 hr7
                    go_wp2_with fail
                    refine (Load_calls HR7.out (HTT.out.below HR7.out.bel HTT.out.lt)).mono ?_
                    rintro e w8 ⟨rfl, hb8⟩
                    rw [HLO.out.2.1]
                    have HR8 := Aside0.mk (HR7.out.below hb8)
                    clear hb8
                    go_wp2_with fail
                    refine (Sweep_calls HR8.out HL4.out.uses HTT.out).mono ?_
                    rintro e w9 ⟨rfl, hr9, _⟩
                    rw [HSW.out] at hr9 ⊢
                    have HR9 := Aside0.mk hr9
                    clear hr9
                    go_wp2_with fail
                    refine (Load_calls HR9.out (HTT.out.below HR9.out.bel HTT.out.lt)).mono ?_
                    rintro e w10 ⟨rfl, hb10⟩
                    rw [HLO.out.2.2]
                    have HR10 := Aside0.mk (HR9.out.below hb10)
                    clear hb10
                    go_wp2_with fail
                    refine (names_S HR10.out none 0 [] (nilC _)).mono ?_
                    rintro e w11 ⟨v11, rfl, hr11, hb11⟩
                    rw [HNM.out] at hr11
                    obtain ⟨A11, c11, rfl⟩ := Kd.R_slice hr11
                    have HC11 := Aside0.mk (Kd.R_reads' hr11)
                    have HB11 := Aside0.mk (below_step HR10.out.bel hb11)
                    clear hb11 hr11
                    go_wp2_with fail
                    refine (PB.affluxref26_Name.calls 30 (k : Int) (nameN k) w11 (PB.name_at k 30 HLO.out.1 (by decide))).mono ?_
                    rintro e w12 ⟨rfl, hb12⟩
                    have HB12 := Aside0.mk (below_step HB11.out hb12)
                    have HC12 := Aside0.mk (Kd.C_below HC11.out.2.2 hb12)
                    clear hb12
                    go_wp2_with fail
                    refine (PR.affluxref05_Same.calls 10 A11 c11 [sMark, nameN k] (some ⟨w12.heap.size, 0, none⟩) 2 [sMark, nameN k] true _ (Kd.C_alloc HC12.out _) HC11.out.2.1 (strC_blk (blk_new w12 _) (by simp)) (by simp) (PA.same_at _ (by simp) 10 (by simp))).mono ?_
                    rintro e w13 ⟨rfl, hd13⟩
                    have HB13 := Aside0.mk (below_drawn (below_step HB12.out (below_alloc (Below.refl _ _) _)) hd13)
                    clear hd13
                    go_wp2_with fail
                    go_ret
                    exact ⟨rfl, HB13.out⟩
      · have hg3 : (other.length : Int) > 10 := by omega
        clear hb3
        go_enter Tryz.func5, Tryz.ntmps5
        go_wp2_with fail
        refine (awake_calls w HTT.out).mono ?_
        rintro e w1 ⟨rfl, hb1⟩
        have HB1 := Aside0.mk hb1
        clear hb1
        go_wp2_with fail
        go_ret
        exact ⟨rfl, HB1.out⟩
    · have hg2 : (file.size : Int) > 3000 := by omega
      clear hb2
      go_enter Tryz.func5, Tryz.ntmps5
      go_wp2_with fail
      refine (awake_calls w HTT.out).mono ?_
      rintro e w1 ⟨rfl, hb1⟩
      have HB1 := Aside0.mk hb1
      clear hb1
      go_wp2_with fail
      go_ret
      exact ⟨rfl, HB1.out⟩
  · have hg1 : (mark.size : Int) > 3000 := by omega
    clear hb1
    go_enter Tryz.func5, Tryz.ntmps5
    go_wp2_with fail
    refine (awake_calls w HTT.out).mono ?_
    rintro e w1 ⟨rfl, hb1⟩
    have HB1 := Aside0.mk hb1
    clear hb1
    go_wp2_with fail
    go_ret
    exact ⟨rfl, HB1.out⟩
end Go.Proofs.YtcbbdkennmopdaaGreatDoor.PK
