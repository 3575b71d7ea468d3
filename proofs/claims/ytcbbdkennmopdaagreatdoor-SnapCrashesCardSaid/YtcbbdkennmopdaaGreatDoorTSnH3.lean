/- Texts of this claim, joined: Opens, Row, SnSweep, SnLoadsP, SnCrashP, PureOpenB, SnRef, SnGreat, SnNone, SnCrashes. -/
import Derived.Test.YtcbbdkennmopdaaGreatDoorTWWords
import Derived.Test.YtcbbdkennmopdaaGreatDoorTWLast
import Derived.Deep.Slices
import Derived.ProofKit
import Derived.Carry
import Derived.KernelRfl
import Derived.Test.YtcbbdkennmopdaaGreatDoorRows
import Derived.Test.YtcbbdkennmopdaaGreatDoorTSumWalk
import Derived.LaidMore
import Derived.LaidHandle
import Derived.MakeChecks
import Derived.OpenShut
import Derived.Stop.Joined
import Derived.Test.YtcbbdkennmopdaaGreatDoorTSnB2
import Derived.Test.YtcbbdkennmopdaaGreatDoorTSnB1
import Derived.Test.YtcbbdkennmopdaaGreatDoorTPBx3
import Derived.Test.YtcbbdkennmopdaaGreatDoorTPBx4
import Derived.Test.YtcbbdkennmopdaaGreatDoorTPBx5
import Derived.Test.YtcbbdkennmopdaaGreatDoorTPRx2
import Derived.Deep.DeepCutAuto
import Derived.StillTailTactics
set_option linter.unusedSimpArgs false
set_option linter.unusedVariables false
/- What an argument reads as, opened by its type: whole numbers, truths, texts, slices, structs, as deep as the type goes. -/
namespace Go.Proofs.YtcbbdkennmopdaaGreatDoor
open Go.RowKit Go.Proofs.YtcbbdkennmopdaaGreatDoorW.PrintWords
namespace Opens
/-- Cells of type t that can be read as data hold a value of kind d, and it is good. -/
structure Opn (P : Program) (t : TypeId) {α : Type} (d : Kd α) (good : α → Prop) : Prop where
  size : P.cellsOf t = d.sz
  op : ∀ {H : Type} (enc : TypeId × Value → H) (W : World) (fuel : Nat) (cs : List Value) (y : DataW H × List MemPlace), DataW.trod enc P W 0 (fun _ => true) true fuel t cs = some y → ∃ x, d.K W x cs ∧ good x
theorem opn_int {P : Program} {t : TypeId} {k : IntKind} (ht : P.underlying t = some (.int k)) (hc : P.cellsOf t = 1) : Opn P t (Kd.int k) (fun n => (Lit.int k n).wf = true) := by
  refine ⟨hc, fun enc W fuel cs y h => ?_⟩
  cases fuel with
  | zero => simp [DataW.trod] at h
  | succ n =>
    unfold DataW.trod at h
    rw [ht] at h
    split at h <;> simp_all
    obtain ⟨⟨rfl, hw⟩, _⟩ := h
    exact ⟨_, rfl, hw⟩
theorem opn_string {P : Program} {t : TypeId} (ht : P.underlying t = some .string) (hc : P.cellsOf t = 1) : Opn P t Kd.string (fun s => s.size ≤ maxLen) := by
  refine ⟨hc, fun enc W fuel cs y h => ?_⟩
  cases fuel with
  | zero => simp [DataW.trod] at h
  | succ n =>
    unfold DataW.trod at h
    rw [ht] at h
    split at h <;> simp_all
    exact ⟨_, rfl, h.1⟩
theorem opn_slice {P : Program} {t e : TypeId} {α : Type} {d : Kd α} {good : α → Prop} (ht : P.underlying t = some (.slice e)) (hc : P.cellsOf t = 1) (h : Opn P e d good) : Opn P t (Kd.slice e d) (fun xs => xs.length ≤ maxLen ∧ ∀ x ∈ xs, good x) := by
  refine ⟨hc, fun enc W fuel cs y hy => ?_⟩
  rcases Go.Deep.open_slice ht hy with ⟨rfl, _⟩ | ⟨a, len, cap, m, n, D, Pl, rfl, _, hl, hcap, hm, _, hel⟩
  · exact ⟨[], ⟨none, 0, rfl, Nat.le_refl _, rfl, Nat.zero_le _, fun h0 => absurd h0 (Nat.lt_irrefl _)⟩, Nat.zero_le _, by simp⟩
  have hmm : m = cap := by rw [hm]; rfl
  subst hmm
  have hx : ∀ i, i < len → ∃ x, (∃ cs', W.cells? 0 (a.add (i * P.cellsOf e)) (P.cellsOf e) = some cs' ∧ d.K W x cs') ∧ good x := fun i hi => by
    obtain ⟨cs', h1, h2⟩ := hel i (by omega)
    obtain ⟨x, hk, hg⟩ := h.op enc W n cs' _ h2
    exact ⟨x, ⟨cs', h1, hk⟩, hg⟩
  have hall : ∀ k, k ≤ len → ∃ xs : List α, xs.length = k ∧ (∀ (j : Nat) p, xs[j]? = some p → ∃ cs', W.cells? 0 (a.add (j * P.cellsOf e)) (P.cellsOf e) = some cs' ∧ d.K W p cs') ∧ ∀ x ∈ xs, good x := by
    intro k
    induction k with
    | zero => intro _; exact ⟨[], rfl, by simp, by simp⟩
    | succ k ih =>
      intro hk
      obtain ⟨xs, hlen, hcells, hgood⟩ := ih (by omega)
      obtain ⟨x, hxk, hxg⟩ := hx k (by omega)
      refine ⟨xs ++ [x], by simp [hlen], fun j p hj => ?_, fun z hz => ?_⟩
      · by_cases hjk : j < xs.length
        · rw [List.getElem?_append_left hjk] at hj
          exact hcells j p hj
        · have hje : j = k := by
            have := (List.getElem?_eq_some_iff.1 hj).1
            simp at this; omega
          subst hje
          rw [List.getElem?_append_right (by omega), hlen, Nat.sub_self] at hj
          obtain rfl : x = p := by simpa using hj
          exact hxk
      · rcases List.mem_append.1 hz with hz | hz
        · exact hgood z hz
        · rw [List.mem_singleton.1 hz]; exact hxg
  obtain ⟨xs, hlen, hcells, hgood⟩ := hall len (Nat.le_refl _)
  subst hlen
  refine ⟨xs, ⟨some a, m, rfl, hl, rfl, ?_, fun h0 => ⟨a, rfl, fun j p hj => ?_⟩⟩, by omega, hgood⟩
  · unfold maxLen at hcap; omega
  · obtain ⟨cs', h1, hk⟩ := hcells j p hj
    rw [h.size] at h1
    obtain ⟨_, hlen, hget⟩ := World.cells?_some h1
    refine ⟨cs', d.K_len hk, hk, fun i u hu => ?_⟩
    have hi : i < d.sz := by rw [← hlen]; exact (List.getElem?_eq_some_iff.1 hu).1
    have := hget i hi
    rw [hu, add_add] at this
    exact this
/-- Fields, the first of which begins at cell o. -/
structure OpnF (P : Program) (fs : List Field) (o : Nat) {α : Type} (d : Kd α) (good : α → Prop) : Prop where
  op : ∀ {H : Type} (enc : TypeId × Value → H) (W : World) (fuel : Nat) (cs : List Value) (ys : List (DataW H × List MemPlace)), cs.length = o + d.sz → (fs.mapM fun f => DataW.trod enc P W 0 (fun _ => true) true fuel f.type ((cs.drop f.offset).take (P.cellsOf f.type))) = some ys → ∃ x, d.K W x (cs.drop o) ∧ good x
theorem opnF_one {P : Program} {f : Field} {o : Nat} {α : Type} {d : Kd α} {good : α → Prop} (ho : f.offset = o) (h : Opn P f.type d good) : OpnF P [f] o d good := by
  refine ⟨fun enc W fuel cs ys hl hy => ?_⟩
  simp only [List.mapM_cons, List.mapM_nil, Option.pure_def, Option.bind_eq_bind, Option.bind_eq_some_iff] at hy
  obtain ⟨y, h1, _⟩ := hy
  obtain ⟨x, hk, hg⟩ := h.op enc W fuel _ _ h1
  rw [ho, h.size, List.take_of_length_le (by simp; omega)] at hk
  exact ⟨x, hk, hg⟩
theorem opnF_cons {P : Program} {f : Field} {fs : List Field} {o : Nat} {α β : Type} {a : Kd α} {b : Kd β} {ga : α → Prop} {gb : β → Prop} (ho : f.offset = o) (h : Opn P f.type a ga) (hs : OpnF P fs (o + a.sz) b gb) : OpnF P (f :: fs) o (Kd.pair a b) (fun x => ga x.1 ∧ gb x.2) := by
  refine ⟨fun enc W fuel cs ys hl hy => ?_⟩
  simp only [List.mapM_cons, Option.pure_def, Option.bind_eq_bind, Option.bind_eq_some_iff] at hy
  obtain ⟨y, h1, ys', h2, _⟩ := hy
  obtain ⟨x, hk, hg⟩ := h.op enc W fuel _ _ h1
  have hlz : cs.length = o + a.sz + b.sz := by rw [hl]; exact (Nat.add_assoc _ _ _).symm
  obtain ⟨z, hkz, hgz⟩ := hs.op enc W fuel cs ys' hlz h2
  rw [ho, h.size] at hk
  refine ⟨(x, z), ⟨_, _, ?_, hk, hkz⟩, hg, hgz⟩
  rw [← List.drop_drop, List.take_append_drop]
theorem opn_struct {P : Program} {t : TypeId} {fs : Array Field} {α : Type} {d : Kd α} {good : α → Prop} (ht : P.underlying t = some (.struct fs)) (hc : P.cellsOf t = d.sz) (h : OpnF P fs.toList 0 d good) : Opn P t d good := by
  refine ⟨hc, fun enc W fuel cs y hy => ?_⟩
  cases fuel with
  | zero => simp [DataW.trod] at hy
  | succ n =>
    unfold DataW.trod at hy
    rw [ht] at hy
    simp only [] at hy
    split at hy
    · rename_i hl
      obtain ⟨ys, hys, _⟩ := Option.map_eq_some_iff.1 hy
      have := h.op enc W n cs ys (by rw [hl, hc, Nat.zero_add]) hys
      simpa using this
    · cases hy
theorem opn_iso {P : Program} {t : TypeId} {α β : Type} {d : Kd α} {good : α → Prop} (h : Opn P t d good) (f : β → α) (g : α → β) (hfg : ∀ x, f (g x) = x) : Opn P t (Kd.iso d f) (fun y => good (f y)) := by
  refine ⟨h.size, fun enc W fuel cs y hy => ?_⟩
  obtain ⟨x, hk, hg⟩ := h.op enc W fuel cs y hy
  exact ⟨g x, by show d.K W (f (g x)) cs; rw [hfg]; exact hk, by rw [hfg]; exact hg⟩
/-- An argument, opened. -/
theorem Opn.arg {P : Program} {t : TypeId} {α : Type} {d : Kd α} {good : α → Prop} (h : Opn P t d good) {H : Type} {enc : TypeId × Value → H} {W : World} {v : Value} {y : DataW H} {ps : List MemPlace} (hv : DataW.Trod enc P W 0 (fun _ => true) true t v y ps) : ∃ x, d.K W x v.cells.toList ∧ good x := by
  obtain ⟨fuel, hf⟩ := hv
  exact h.op enc W fuel _ _ hf
/-- A slice that came in. -/
theorem slice_arg {P : Program} {t e : TypeId} {α : Type} {d : Kd α} {good : List α → Prop} (ht : P.underlying t = some (.slice e)) (h : Opn P t (Kd.slice e d) good) {H : Type} {enc : TypeId × Value → H} {W : World} {base : Nat} {v : Value} {y : DataW H} {ps : List MemPlace} (hv : Value.okWide P W .any base t v) (hd : DataW.Trod enc P W 0 (fun _ => true) true t v y ps) : ∃ A c xs, v = .slice A xs.length c ∧ xs.length ≤ c ∧ Kd.C d W A xs.length xs ∧ good xs := by
  obtain ⟨A, len, cap, rfl⟩ := Go.WideShapes.okWide_slice ht hv
  obtain ⟨xs, ⟨A', c', hcs, hl, hC⟩, hg⟩ := h.arg hd
  simp only [Value.cells, List.cons.injEq, Value.slice.injEq, and_true] at hcs
  obtain ⟨rfl, rfl, rfl⟩ := hcs
  exact ⟨A, cap, xs, rfl, hl, hC, hg⟩
/-- A struct that came in by value. -/
theorem struct_arg {P : Program} {t : TypeId} {fs : Array Field} {α : Type} {d : Kd α} {good : α → Prop} (ht : P.underlying t = some (.struct fs)) (h : Opn P t d good) {H : Type} {enc : TypeId × Value → H} {W : World} {base : Nat} {v : Value} {y : DataW H} {ps : List MemPlace} (hv : Value.okWide P W .any base t v) (hd : DataW.Trod enc P W 0 (fun _ => true) true t v y ps) : ∃ cs x, v = .agg cs ∧ d.K W x cs.toList ∧ good x := by
  obtain ⟨cs, rfl, _⟩ := Go.WideShapes.okWide_struct ht hv
  obtain ⟨x, hk, hg⟩ := h.arg hd
  exact ⟨cs, x, rfl, hk, hg⟩
/-- What nothing has touched reads as it did: all arguments at once. -/
theorem trodAll_below {H : Type} {enc : TypeId × Value → H} {P : Program} (hl : laidOutB P = true) {W W' : World} (hb : Below W.heap.size W W') : ∀ (ts : List TypeId) (vs : List Value) (ds : List (DataW H)) (ps : List MemPlace), (∀ t ∈ ts, P.readableRec t = true ∧ t < P.types.size) →
    DataW.TrodAll enc P W 0 (fun _ => true) true ts vs ds ps → (∀ x ∈ ps, x.block < W.heap.size) → DataW.TrodAll enc P W' 0 (fun b => decide (b < W.heap.size)) true ts vs ds ps
  | [], [], [], _, _, h, _ => h
  | t :: ts, v :: vs, d :: ds, ps, ht, h, hlt => by
    obtain ⟨p, q, h1, h2, rfl⟩ := h
    refine ⟨p, q, Below.trod hl (ht t List.mem_cons_self).1 (ht t List.mem_cons_self).2 h1 hb (fun x hx => hlt x (List.mem_append_left _ hx)), ?_, rfl⟩
    exact trodAll_below hl hb ts vs ds q (fun t' h' => ht t' (List.mem_cons_of_mem _ h')) h2 (fun x hx => hlt x (List.mem_append_right _ hx))
theorem trodAll_lt {H : Type} {enc : TypeId × Value → H} {P : Program} {W : World} : ∀ (ts : List TypeId) (vs : List Value) (ds : List (DataW H)) (ps : List MemPlace), DataW.TrodAll enc P W 0 (fun _ => true) true ts vs ds ps → ∀ x ∈ ps, x.block < W.heap.size
  | [], [], [], _, h, x, hx => by rw [show _ = [] from h] at hx; cases hx
  | t :: ts, v :: vs, d :: ds, ps, h, x, hx => by
    obtain ⟨p, q, ⟨fuel, h1⟩, h2, rfl⟩ := h
    rcases List.mem_append.1 hx with hx | hx
    · exact DataW.trod_lt fuel _ _ _ h1 x hx
    · exact trodAll_lt ts vs ds q h2 x hx
end Opens
end Go.Proofs.YtcbbdkennmopdaaGreatDoor
/- From a law's walk to its row: whatever the arguments' types. -/
namespace Go.Proofs.YtcbbdkennmopdaaGreatDoor
open Go.ChangeShapes Go.WideShapes Go.ChangeAt Go.RowKit
theorem ownKnobNone : ownKnob Tryz.prog.godebug = none := by kernel_rfl
theorem laidOutProg : laidOutB Tryz.prog = true := by kernel_rfl
/-- What a law is answered: true, the arguments as they were. -/
theorem post_true {H : Type} {enc : TypeId × Value → H} {fn : Func} {spec : ChangeSpec} {W W' : World} {args : Array Value} {ds gs : List (DataW H)} {before : List MemPlace} (tb : TypeId)
    (hvars : spec.vars = []) (hres : fn.resultTypes = #[tb]) (htb : Tryz.prog.underlying tb = some .bool)
    (hfn : spec.fn H (ds ++ gs) = { results := [.lit (.bool true)], args := ds })
    (hread : (fn.params.toList.all fun t => Tryz.prog.readableRec t && decide (t < Tryz.prog.types.size)) = true)
    (hW : DataW.Whole enc Tryz.prog fn.params.toList spec.vars false W args.toList ds gs before) (hb : Below W.heap.size W W') :
    spec.post enc Tryz.prog fn false true false false W args (.bool true) W' := by
  have hW' := hW
  obtain ⟨p, q, hA, hV, _, _, _⟩ := hW
  rw [hvars] at hV
  obtain ⟨rfl, rfl⟩ := trodVars_none hV
  have hread' : ∀ t ∈ fn.params.toList, Tryz.prog.readableRec t = true ∧ t < Tryz.prog.types.size := fun t ht => by
    have := List.all_eq_true.1 hread t ht
    simpa using this
  refine ⟨ds, [], before, [], p, [], hW', ?_, ?_, ?_, hb.frame _, fun h => by cases h⟩
  · rw [hfn, hres]
    exact trodAll_mk1 (shut_bool htb _)
  · rw [hfn]
    exact Opens.trodAll_below laidOutProg hb _ _ _ _ hread' hA (Opens.trodAll_lt _ _ _ _ hA)
  · rw [hfn, hvars]; rfl
/-- The listed table, where the program keeps it. -/
theorem tab_of_laid {W : World} (h : laidMetH Tryz.prog [("afflux/seal.nibbles", Rows.laid_afflux_seal_nibbles)] W) : SumW.Tab W := by
  rw [MakeChecks.laidMetH_plain _ _ _ (by kernel_rfl)] at h
  obtain ⟨ps, ⟨g0, t0, cs0, f0, p0, q0, hg0, ht0, hv0, hd0, _, _⟩, _, _⟩ := h
  obtain rfl := Option.some.inj ((show Tryz.prog.globalNamed "afflux/seal.nibbles" = some 0 by kernel_rfl).symm.trans hg0)
  obtain rfl := Option.some.inj ((show (Tryz.prog.globals[0]?).map (·.type) = some 219 by kernel_rfl).symm.trans ht0)
  obtain ⟨xs, m1, rfl, hx1, hlen, hn3, hel⟩ := DataW.trod_array Tryz.underlying219 hd0
  have cE : Tryz.prog.cellsOf 163 = 1 := by kernel_rfl
  have cA : Tryz.prog.cellsOf 219 = 16 := by kernel_rfl
  intro i hi
  have hcell := World.var?_cell hg0 hv0 i
  rw [hcell]
  have hx := hel i hi
  rw [cE, Nat.mul_one] at hx
  rw [cA] at hlen
  have hxi : i < xs.length := by omega
  rw [List.getElem?_eq_getElem hxi] at hx
  obtain ⟨n, e1, e2, _⟩ := DataW.trod_int Tryz.underlying163 hx
  have hci : i < cs0.size := by rw [← Array.length_toList, hlen]; exact hi
  have hgi : cs0[i]? = some (.int .u64 n) := by
    have h1 : (List.drop i cs0.toList).take 1 = [cs0[i]] := by
      rw [List.drop_eq_getElem_cons (by simpa using hci)]; rfl
    rw [h1] at e1
    rw [Array.getElem?_eq_getElem hci]
    exact congrArg some (List.cons.inj e1).1
  rw [hgi]
  have hdat : (Rows.laid_afflux_seal_nibbles : DataW Unit) = .agg (xs.map (·.1)) := by
    have := congrArg (·.1) hx1
    exact this
  have hn : (xs.map (·.1))[i]? = some (.lit (.int .u64 n)) := by
    rw [List.getElem?_map, List.getElem?_eq_getElem hxi, e2]; rfl
  have hall : ∀ j : Fin 16, (match (Rows.laid_afflux_seal_nibbles : DataW Unit) with | .agg l => l[j.val]? | _ => none) = some (.lit (.int .u64 (Crc.bv (Crc.nibs.getD j.val 0#64)))) := by
    intro j
    match j with
    | ⟨0, _⟩ => rfl
    | ⟨1, _⟩ => rfl
    | ⟨2, _⟩ => rfl
    | ⟨3, _⟩ => rfl
    | ⟨4, _⟩ => rfl
    | ⟨5, _⟩ => rfl
    | ⟨6, _⟩ => rfl
    | ⟨7, _⟩ => rfl
    | ⟨8, _⟩ => rfl
    | ⟨9, _⟩ => rfl
    | ⟨10, _⟩ => rfl
    | ⟨11, _⟩ => rfl
    | ⟨12, _⟩ => rfl
    | ⟨13, _⟩ => rfl
    | ⟨14, _⟩ => rfl
    | ⟨15, _⟩ => rfl
    | ⟨n + 16, h⟩ => exact absurd h (by omega)
  have h2 := hall ⟨i, hi⟩
  rw [hdat] at h2
  simp only at h2
  rw [hn] at h2
  have h3 := Option.some.inj h2
  have h4 := DataW.lit.inj h3
  have h5 := (Lit.int.inj h4).2
  rw [h5]
set_option maxRecDepth 100000 in
/-- The door's own heap meets the condition. -/
theorem door_met (os : Os) (args : Array Value) : laidMetH Tryz.prog [("afflux/seal.nibbles", Rows.laid_afflux_seal_nibbles)] ((World.doorLaid Tryz.prog 400 os).forCall (fun _ _ => 0) ⟨#[], args, []⟩).memory :=
  laidMetH_of_parts3 (fuel := 8) (laidMet_of_run' 8 (by kernel_rfl) (by kernel_rfl)) (by kernel_rfl) (by kernel_rfl)
end Go.Proofs.YtcbbdkennmopdaaGreatDoor
/- snap: Sweep; and what comes of no disk. -/
namespace Go.Proofs.YtcbbdkennmopdaaGreatDoor.PK
open Go.RowKit Go.Proofs.YtcbbdkennmopdaaGreatDoorW.PrintWords Go.Proofs.YtcbbdkennmopdaaGreatDoorW.PrintLast Go.Proofs.YtcbbdkennmopdaaGreatDoorW.PrintMore
open Go.Maps
theorem othersL_uses (but : ByteArray) : ∀ (l : List ByteArray) (s : DS) (n : Nat), (othersL but l s n).1.uses ≤ s.uses + (l.length : Int)
  | [], s, n => by show s.uses ≤ _; simp
  | x :: r, s, n => by
    unfold othersL
    have hu := deleteD_uses s x
    rw [List.length_cons]
    split
    · have := othersL_uses but r s n; omega
    · split
      · have := othersL_uses but r (deleteD s x).1 (n + 1); omega
      · show (deleteD s x).1.uses ≤ _
        omega
theorem othersL_cnt (but : ByteArray) : ∀ (l : List ByteArray) (s : DS) (n : Nat), 0 ≤ (othersL but l s n).2.1 ∧ (othersL but l s n).2.1 ≤ (n : Int) + (l.length : Int)
  | [], s, n => by show 0 ≤ (n : Int) ∧ (n : Int) ≤ _; simp
  | x :: r, s, n => by
    unfold othersL
    rw [List.length_cons]
    split
    · have := othersL_cnt but r s n; omega
    · split
      · have := othersL_cnt but r (deleteD s x).1 (n + 1); omega
      · show (0 : Int) ≤ 0 ∧ (0 : Int) ≤ _
        omega
theorem names_le {s : DS} (h : Good s) (fronts : List ByteArray) : (namesD s fronts).length ≤ 100 := by
  unfold namesD
  refine Nat.le_trans (List.length_filter_le _ _) ?_
  unfold namesF
  rw [List.length_map]
  exact h.count
theorem sweepD_eq (s : DS) : sweepD s = if (loadD s).2.2 = 0 then (if (othersD s (nameS (loadD s).1)).2.2 = 0 then (if (deleteD (othersD s (nameS (loadD s).1)).1 sFresh).2 = 0 then ((deleteD (othersD s (nameS (loadD s).1)).1 sFresh).1, (othersD s (nameS (loadD s).1)).2.1 + 1, 0) else if (deleteD (othersD s (nameS (loadD s).1)).1 sFresh).2 = 7 then ((deleteD (othersD s (nameS (loadD s).1)).1 sFresh).1, 0, 7) else ((deleteD (othersD s (nameS (loadD s).1)).1 sFresh).1, (othersD s (nameS (loadD s).1)).2.1, 0)) else ((othersD s (nameS (loadD s).1)).1, 0, (othersD s (nameS (loadD s).1)).2.2)) else (s, 0, (loadD s).2.2) := rfl
set_option maxHeartbeats 4000000 in
set_option maxRecDepth 100000 in
theorem Sweep_calls {w0 w : World} {g b : Nat} {s : DS} {K : Nat → Prop} (h : RunK w0 w g b s K) (hu : s.uses < 800000) (hT : SumW.Tab w0) : Calls Tryz.prog 18 #[.pointer (some ⟨g, 0, none⟩)] w (OthPost w0 w g b K (sweepD s)) := by
  have H0 := Aside0.mk h
  have HL := Aside0.mk (Load_calls h (hT.below h.bel hT.lt))
  unfold LoadPost at HL
  have HP : Aside0 (∀ e w' r, sweepD s = r → e = .returned (.tuple #[.int .i64 r.2.1, .int .i64 r.2.2]) → RunK w0 w' g b r.1 K → Held K w w' → OthPost w0 w g b K (sweepD s) e w') := ⟨fun e w' r hr h1 h2 h3 => by rw [hr]; exact ⟨h1, h2, h3⟩⟩
  have HSW := Aside0.mk (sweepD_eq s)
  have HOC : Aside0 (∀ but w1, Below w.heap.size w w1 → Calls Tryz.prog 69 #[.pointer (some ⟨g, 0, none⟩), .string but] w1 (OthPost w0 w1 g b K (othersD s but))) := ⟨fun but w1 hb => others_calls (h.below hb) (by omega) but⟩
  have HOU : Aside0 (∀ but, (othersD s but).1.uses ≤ s.uses + 100 ∧ 0 ≤ (othersD s but).2.1 ∧ (othersD s but).2.1 ≤ 100) := ⟨fun but => by
    have h1 := othersL_uses but (namesD s [sFront]) s 0
    have h2 := othersL_cnt but (namesD s [sFront]) s 0
    have h3 := names_le h.good.1 [sFront]
    unfold othersD
    exact ⟨by omega, h2.1, by omega⟩⟩
  clear h hT
  generalize loadD s = q at HL HSW
  obtain ⟨n, t, c⟩ := q
  dsimp only at HL HSW
  by_cases hc : c = 0
  · subst hc
    have HS2 : Aside0 (sweepD s = if (othersD s (nameS n)).2.2 = 0 then (if (deleteD (othersD s (nameS n)).1 sFresh).2 = 0 then ((deleteD (othersD s (nameS n)).1 sFresh).1, (othersD s (nameS n)).2.1 + 1, 0) else if (deleteD (othersD s (nameS n)).1 sFresh).2 = 7 then ((deleteD (othersD s (nameS n)).1 sFresh).1, 0, 7) else ((deleteD (othersD s (nameS n)).1 sFresh).1, (othersD s (nameS n)).2.1, 0)) else ((othersD s (nameS n)).1, 0, (othersD s (nameS n)).2.2)) := ⟨by rw [HSW.out, if_pos rfl]⟩
    have HO2 : Aside0 (∀ w1, Below w.heap.size w w1 → Calls Tryz.prog 69 #[.pointer (some ⟨g, 0, none⟩), .string (nameS n)] w1 (OthPost w0 w1 g b K (othersD s (nameS n)))) := ⟨fun w1 hb => HOC.out _ w1 hb⟩
    unfold OthPost at HO2
    have HU2 := Aside0.mk (HOU.out (nameS n))
    clear HSW HOC HOU
    generalize othersD s (nameS n) = o at HS2 HO2 HU2
    obtain ⟨s2, k, c2⟩ := o
    dsimp only at HS2 HO2 HU2
    by_cases hc2 : c2 = 0
    · subst hc2
      have HS3 : Aside0 (sweepD s = if (deleteD s2 sFresh).2 = 0 then ((deleteD s2 sFresh).1, k + 1, 0) else if (deleteD s2 sFresh).2 = 7 then ((deleteD s2 sFresh).1, 0, 7) else ((deleteD s2 sFresh).1, k, 0)) := ⟨by rw [HS2.out, if_pos rfl]⟩
      have HD : Aside0 (∀ w1, RunK w0 w1 g b s2 K → Calls Tryz.prog 79 #[.pointer (some ⟨g, 0, none⟩), .string ⟨#[109, 97, 114, 107, 46, 110, 101, 119]⟩] w1 fun e w' => e = .returned (.int .i64 (deleteD s2 sFresh).2) ∧ RunK w0 w' g b (deleteD s2 sFresh).1 K ∧ Held K w1 w') := ⟨fun w1 hr => delete_S hr (by have := HU2.out.1; omega) sFresh⟩
      have hk1 : IntKind.i64.wrap (k + 1) = k + 1 := by rw [IntKind.wrap_i64]; have := HU2.out; omega
      clear HS2
      generalize deleteD s2 sFresh = dl at HS3 HD
      obtain ⟨s3, c3⟩ := dl
      dsimp only at HS3 HD
      by_cases h30 : c3 = 0
      · subst h30
        have HS4 : Aside0 (sweepD s = (s3, k + 1, 0)) := ⟨by rw [HS3.out, if_pos rfl]⟩
        go_enter Tryz.func18, Tryz.ntmps18
        go_wp2_with fail
        refine HL.out.mono ?_
        rintro e w1 ⟨rfl, hb1⟩
        have HB1 := Aside0.mk hb1
        clear hb1
        go_wp2_with fail
        refine (Name_calls n w1).mono ?_
        rintro e w2 ⟨rfl, hb2⟩
        have HB2 := Aside0.mk (below_step HB1.out hb2)
        clear hb2
        go_wp2_with fail
        refine (HO2.out w2 HB2.out).mono ?_
        rintro e w3 ⟨rfl, hr3, hh3⟩
        have HR3 := Aside0.mk hr3
        have HH3 := Aside0.mk ((Held.below HB2.out H0.out.lt).trans hh3)
        clear hr3 hh3
        go_wp2_with fail
        refine (HD.out w3 HR3.out).mono ?_
        rintro e w4 ⟨rfl, hr4, hh4⟩
        have HR4 := Aside0.mk hr4
        have HH4 := Aside0.mk (HH3.out.trans hh4)
        clear hr4 hh4
        go_wp2_with fail
        go_ret2
        exact HP.out _ _ (s3, k + 1, 0) HS4.out rfl HR4.out HH4.out
      · by_cases h37 : c3 = 7
        · subst h37
          have HS4 : Aside0 (sweepD s = (s3, 0, 7)) := ⟨by rw [HS3.out, if_neg (by decide), if_pos rfl]⟩
          go_enter Tryz.func18, Tryz.ntmps18
          go_wp2_with fail
          refine HL.out.mono ?_
          rintro e w1 ⟨rfl, hb1⟩
          have HB1 := Aside0.mk hb1
          clear hb1
          go_wp2_with fail
          refine (Name_calls n w1).mono ?_
          rintro e w2 ⟨rfl, hb2⟩
          have HB2 := Aside0.mk (below_step HB1.out hb2)
          clear hb2
          go_wp2_with fail
          refine (HO2.out w2 HB2.out).mono ?_
          rintro e w3 ⟨rfl, hr3, hh3⟩
          have HR3 := Aside0.mk hr3
          have HH3 := Aside0.mk ((Held.below HB2.out H0.out.lt).trans hh3)
          clear hr3 hh3
          go_wp2_with fail
          refine (HD.out w3 HR3.out).mono ?_
          rintro e w4 ⟨rfl, hr4, hh4⟩
          have HR4 := Aside0.mk hr4
          have HH4 := Aside0.mk (HH3.out.trans hh4)
          clear hr4 hh4
          go_wp2_with fail
          go_ret2
          exact HP.out _ _ (s3, 0, 7) HS4.out rfl HR4.out HH4.out
        · have HS4 : Aside0 (sweepD s = (s3, k, 0)) := ⟨by rw [HS3.out, if_neg h30, if_neg h37]⟩
          go_enter Tryz.func18, Tryz.ntmps18
          go_wp2_with fail
          refine HL.out.mono ?_
          rintro e w1 ⟨rfl, hb1⟩
          have HB1 := Aside0.mk hb1
          clear hb1
          go_wp2_with fail
          refine (Name_calls n w1).mono ?_
          rintro e w2 ⟨rfl, hb2⟩
          have HB2 := Aside0.mk (below_step HB1.out hb2)
          clear hb2
          go_wp2_with fail
          refine (HO2.out w2 HB2.out).mono ?_
          rintro e w3 ⟨rfl, hr3, hh3⟩
          have HR3 := Aside0.mk hr3
          have HH3 := Aside0.mk ((Held.below HB2.out H0.out.lt).trans hh3)
          clear hr3 hh3
          go_wp2_with fail
          refine (HD.out w3 HR3.out).mono ?_
          rintro e w4 ⟨rfl, hr4, hh4⟩
          have HR4 := Aside0.mk hr4
          have HH4 := Aside0.mk (HH3.out.trans hh4)
          clear hr4 hh4
          go_wp2_with fail
          go_ret2
          exact HP.out _ _ (s3, k, 0) HS4.out rfl HR4.out HH4.out
    · have HS4 : Aside0 (sweepD s = (s2, 0, c2)) := ⟨by rw [HS2.out, if_neg hc2]⟩
      clear HS2
      go_enter Tryz.func18, Tryz.ntmps18
      go_wp2_with fail
      refine HL.out.mono ?_
      rintro e w1 ⟨rfl, hb1⟩
      have HB1 := Aside0.mk hb1
      clear hb1
      go_wp2_with fail
      refine (Name_calls n w1).mono ?_
      rintro e w2 ⟨rfl, hb2⟩
      have HB2 := Aside0.mk (below_step HB1.out hb2)
      clear hb2
      go_wp2_with fail
      refine (HO2.out w2 HB2.out).mono ?_
      rintro e w3 ⟨rfl, hr3, hh3⟩
      have HR3 := Aside0.mk hr3
      have HH3 := Aside0.mk ((Held.below HB2.out H0.out.lt).trans hh3)
      clear hr3 hh3
      go_wp2_with fail
      go_ret2
      exact HP.out _ _ (s2, 0, c2) HS4.out rfl HR3.out HH3.out
  · have HS4 : Aside0 (sweepD s = (s, 0, c)) := ⟨by rw [HSW.out, if_neg hc]⟩
    clear HSW
    go_enter Tryz.func18, Tryz.ntmps18
    go_wp2_with fail
    refine HL.out.mono ?_
    rintro e w1 ⟨rfl, hb1⟩
    have HB1 := Aside0.mk hb1
    clear hb1
    go_wp2_with fail
    go_ret2
    exact HP.out _ _ (s, 0, c) HS4.out rfl (H0.out.below HB1.out) (Held.below HB1.out H0.out.lt)
end Go.Proofs.YtcbbdkennmopdaaGreatDoor.PK
/- snap: the plain law of SnapLoads: what lies on the disk, what is told of it, what is swept. -/
namespace Go.Proofs.YtcbbdkennmopdaaGreatDoor.PK
open Go.RowKit Go.Proofs.YtcbbdkennmopdaaGreatDoorW.PrintWords Go.Proofs.YtcbbdkennmopdaaGreatDoorW.PrintLast Go.Proofs.YtcbbdkennmopdaaGreatDoorW.PrintMore
open Go.Maps
theorem delF_one : ∀ {l : List Fl} {s : ByteArray} {f : Fl}, (l.map (·.name)).Nodup → getF l s = some f → (delF l s).length + 1 = l.length
  | [], _, _, _, h => by rw [getF_nil] at h; cases h
  | y :: r, s, f, hn, h => by
    rw [List.map_cons, List.nodup_cons] at hn
    rw [getF_cons] at h
    rw [delF_cons]
    by_cases hy : y.name = s
    · rw [if_pos hy]
      have hr : delF r s = r := by
        apply delF_none
        cases hg : getF r s with
        | none => rfl
        | some z =>
          have h1 := getF_some hg
          exact absurd (by rw [hy, ← h1.2]; exact List.mem_map_of_mem h1.1) hn.1
      rw [hr]
      rfl
    · rw [if_neg hy] at h ⊢
      have := delF_one hn.2 h
      simp only [List.length_cons]
      omega
theorem after_len (but : ByteArray) : ∀ (l : List ByteArray) (fs : List Fl), Asc fs → l.Nodup → (∀ x ∈ l, (getF fs x).isSome = true) → (afterF (delOps but l) fs).length + (delOps but l).length = fs.length
  | [], fs, _, _, _ => rfl
  | x :: r, fs, ha, hn, h => by
    obtain ⟨hx, hr⟩ := List.nodup_cons.1 hn
    unfold delOps
    by_cases hb : x = but
    · rw [if_pos hb]
      exact after_len but r fs ha hr (fun y hy => h y (List.mem_cons_of_mem _ hy))
    · rw [if_neg hb, afterF_cons, List.length_cons]
      have h1 := h x List.mem_cons_self
      obtain ⟨f, hf⟩ := Option.isSome_iff_exists.1 h1
      have h2 := delF_one ha.names hf
      have h3 := after_len but r (delF fs x) (ha.del x) hr (fun y hy => by
        rw [getF_del, if_neg (fun e => hx (by rw [← e]; exact hy))]
        exact h y (List.mem_cons_of_mem _ hy))
      omega
theorem Calm.more {s : DS} {room : Int} {fs : List Fl} {u u' : Int} (h : Calm s room fs u) (hu : u ≤ u') : Calm s room fs u' := ⟨h.off, h.armed, h.room, h.files, Int.le_trans h.uses hu⟩
/-- A Put on a disk whose power stays. -/
theorem put_calm {s : DS} {room : Int} {fs : List Fl} {u : Int} (h : Calm s room fs u) {name x : ByteArray} (hn : mayN name = true) (h1 : x.size ≤ 1048576) (h2 : fs.length < 100) (h3 : (usedF fs : Int) + (x.size : Int) ≤ room) : (putS s name x).2 = 0 ∧ Calm (putS s name x).1 room (putF fs ⟨name, 0, x, (x.size : Int)⟩) u := by
  have hc : putC s name x = 0 := by
    unfold putC fitsD
    rw [if_pos hn, free_calm h, h.files]
    rw [if_neg (by rintro (h9 | ⟨_, h9⟩) <;> omega), if_neg (by omega)]
  unfold putS
  rw [hc]
  dsimp only
  rw [if_pos rfl]
  exact ⟨rfl, h.off, h.armed, h.room, by show putF s.files _ = _; rw [h.files], h.uses⟩
/-- What lies on the disk: a mark's bytes, and other files of a snapshot's disk. -/
structure Lain (s : DS) (mark : ByteArray) (c : Nat) (u : Nat) : Prop where
  calm : ∃ fs, Calm s 1048576 fs 2000
  asc : Asc s.files
  only : OnlyN s.files
  ok : FlsOk s.files
  mark : getF s.files sMark = some ⟨sMark, 0, mark, (mark.size : Int)⟩
  len : s.files.length ≤ c
  used : usedF s.files ≤ u
theorem Lain.put {s : DS} {mark : ByteArray} {c u : Nat} (h : Lain s mark c u) {name x : ByteArray} (hn : mayN name = true) (ho : name = sFresh ∨ hasP name sFront = true) (hm : name ≠ sMark) (hx : x.size ≤ 3000) (hc : c < 100) (hu : u ≤ 200000) : Lain (putS s name x).1 mark (c + 1) (u + 3000) := by
  obtain ⟨fs, hcm⟩ := h.calm
  have hfs := hcm.files
  have hl := h.len
  have hus := h.used
  rw [hfs] at hl hus
  have hp := put_calm hcm (name := name) (x := x) hn (by omega) (by omega) (by omega)
  have hf := hp.2.files
  have ha := h.asc
  rw [hfs] at ha
  refine ⟨⟨_, hp.2⟩, by rw [hf]; exact ha.put _, ?_, ?_, ?_, ?_, ?_⟩
  · intro f hm
    rw [hf] at hm
    rcases mem_putF.1 hm with rfl | ⟨hm, _⟩
    · exact .inr ho
    · exact h.only f (by rw [hfs]; exact hm)
  · intro f hm
    rw [hf] at hm
    rcases mem_putF.1 hm with rfl | ⟨hm, _⟩
    · exact hn
    · exact h.ok f (by rw [hfs]; exact hm)
  · rw [hf, getF_put, if_neg (fun e => hm e.symm), ← hfs]
    exact h.mark
  · rw [hf]
    have := putF_le fs ⟨name, 0, x, (x.size : Int)⟩
    omega
  · rw [hf]
    have := usedF_put fs ⟨name, 0, x, (x.size : Int)⟩
    have e : ((⟨name, 0, x, (x.size : Int)⟩ : Fl).data.size) = x.size := rfl
    omega
theorem Lain.off {s : DS} {mark : ByteArray} {c u : Nat} (h : Lain s mark c u) : s.off = false := by obtain ⟨fs, hc⟩ := h.calm; exact hc.off
/-- What the document tells: of the mark, and of the file that it names. -/
def toldL (s : DS) (mark : ByteArray) : Option (Nat × ByteArray) :=
  match markedB mark with
  | none => none
  | some k => if (readD s (nameN k)).2 = 0 then (dataB k (readD s (nameN k)).1).map fun d => (k, d) else none
theorem name_after (n : Nat) : lessN sMark (nameN n) = true := by
  rw [lessN_lt]
  show ([109, 97, 114, 107] : List UInt8) < Crc.nameL n
  unfold Crc.nameL
  show (109 : UInt8) :: _ < (115 : UInt8) :: _
  exact List.cons_lt_cons_iff.2 (.inl (by decide))
theorem runs_calm : ∀ (ops : List (List Fl → List Fl)) (s : DS) (room : Int) (fs : List Fl) (u : Int), Calm s room fs u → (runsD ops s).2 = 0 ∧ Calm (runsD ops s).1 room (afterF ops fs) (u + (ops.length : Int)) := by
  intro ops s room fs u h
  have hk := runs_keeps ops s
  rcases runs_cases ops s h.off with ⟨a1, a2, a3⟩ | ⟨_, a2, _⟩
  · exact ⟨a1, a3, hk.2.1.trans h.armed, hk.1.trans h.room, by rw [a2, h.files], by have := hk.2.2; have := h.uses; omega⟩
  · rw [h.armed] at a2; cases a2
/-- What is swept: all but the mark and the file that it names. -/
theorem lain_yes {s : DS} {mark : ByteArray} {c u : Nat} (h : Lain s mark c u) {k : Nat} {d : ByteArray} (ht : toldL s mark = some (k, d)) :
    k ≤ 99999999 ∧ loadD s = ((k : Int), d, 0) ∧ ∃ t : DS, sweepD s = (t, (s.files.length : Int) - 2, 0) ∧ namesD t [] = [sMark, nameN k] ∧ loadD t = ((k : Int), d, 0) ∧ ∃ f, getF s.files (nameN k) = some f ∧ Calm t 1048576 [⟨sMark, 0, mark, (mark.size : Int)⟩, f] (2001 + (c : Int)) := by
  unfold toldL at ht
  cases hm : markedB mark with
  | none => rw [hm] at ht; cases ht
  | some k' =>
    rw [hm] at ht
    simp only at ht
    by_cases h0 : (readD s (nameN k')).2 = 0
    · rw [if_pos h0] at ht
      cases hd : dataB k' (readD s (nameN k')).1 with
      | none => rw [hd] at ht; cases ht
      | some d' =>
        rw [hd] at ht
        simp only [Option.map_some, Option.some.injEq, Prod.mk.injEq] at ht
        obtain ⟨rfl, rfl⟩ := ht
        have hk := marked_le hm
        obtain ⟨f, hf⟩ : ∃ f, getF s.files (nameN k') = some f := by
          cases hg : getF s.files (nameN k') with
          | none => rw [read_none h.off hg] at h0; exact absurd h0 (by decide)
          | some f => exact ⟨f, rfl⟩
        have hrd := read_some h.off hf
        rw [hrd] at hd
        have hl : loadD s = ((k' : Int), d', 0) := by
          rw [loadD_eq, read_some h.off h.mark, if_pos rfl]
          dsimp only
          rw [hm]
          simp only
          rw [loadF_eq, hrd, if_pos rfl]
          dsimp only
          rw [hd]
        refine ⟨hk, hl, ?_⟩
        obtain ⟨fs, hcm⟩ := h.calm
        have hfs := hcm.files
        have hor := others_runs (nameN k') (snapsF s.files) s 0 (snaps_nodup h.asc) (fun x hx => by
          obtain ⟨⟨g, hg, rfl⟩, _⟩ := mem_snaps.1 hx
          exact ⟨h.ok g hg, isSome_of_mem hg⟩)
        have hlen := after_len (nameN k') (snapsF s.files) s.files h.asc (snaps_nodup h.asc) (fun x hx => by
          obtain ⟨⟨g, hg, rfl⟩, _⟩ := mem_snaps.1 hx
          exact isSome_of_mem hg)
        have hrc := runs_calm (delOps (nameN k') (snapsF s.files)) s 1048576 fs 2000 hcm
        have hod : othersD s (nameN k') = ((runsD (delOps (nameN k') (snapsF s.files)) s).1, (((delOps (nameN k') (snapsF s.files)).length : Nat) : Int), 0) := by
          unfold othersD
          have e : namesD s [sFront] = snapsF s.files := rfl
          rw [e, hor, hrc.1, if_pos rfl, Nat.zero_add]
        have hc2 := hrc.2
        rw [← hfs] at hc2
        generalize (runsD (delOps (nameN k') (snapsF s.files)) s).1 = t1 at hod hc2
        have ha1 := after_asc (nameN k') (snapsF s.files) s.files h.asc
        have hg1 := getF_after (nameN k') (snapsF s.files) s.files
        generalize afterF (delOps (nameN k') (snapsF s.files)) s.files = fs1 at hc2 ha1 hg1 hlen
        generalize (delOps (nameN k') (snapsF s.files)).length = cnt at hod hlen hc2
        have hnn : nameS ((k' : Nat) : Int) = nameN k' := nameS_nat k' hk
        have hgm : getF fs1 sMark = some ⟨sMark, 0, mark, (mark.size : Int)⟩ := by
          rw [hg1, if_neg (fun h9 => by have := (mem_snaps.1 h9.1).2; rw [mark_front] at this; cases this)]
          exact h.mark
        have hgk : getF fs1 (nameN k') = some f := by
          rw [hg1, if_neg (fun h9 => h9.2 rfl)]
          exact hf
        have hgo : ∀ x, x ≠ sMark → x ≠ nameN k' → x ≠ sFresh → getF fs1 x = none := fun x h1 h2 h3 => by
          rw [hg1]
          by_cases h4 : hasP x sFront = true
          · split
            · rfl
            · rename_i h5
              cases hg : getF s.files x with
              | none => rfl
              | some z => exact absurd ⟨mem_snaps.2 ⟨⟨z, (getF_some hg).1, (getF_some hg).2⟩, h4⟩, h2⟩ h5
          · rw [only_get h.only h1 h3 (by simpa using h4)]
            split <;> rfl
        have key : ∀ fs2 : List Fl, Asc fs2 → (∀ x, getF fs2 x = if x = sFresh then none else getF fs1 x) → fs2 = [⟨sMark, 0, mark, (mark.size : Int)⟩, f] := fun fs2 ha2 hg2 => by
          have hfn := (getF_some hf).2
          refine Asc.ext ha2 (List.pairwise_cons.2 ⟨fun y hy => by rw [List.mem_singleton.1 hy, hfn]; exact name_after k', List.pairwise_singleton _ _⟩) fun x => ?_
          rw [hg2, getF_cons, getF_cons, getF_nil, hfn]
          by_cases h3 : x = sFresh
          · rw [if_pos h3, h3, if_neg mark_fresh, if_neg (ne_fresh k')]
          · rw [if_neg h3]
            by_cases h1 : x = sMark
            · rw [h1, if_pos rfl]; exact hgm
            · rw [if_neg (fun e => h1 e.symm)]
              by_cases h2 : x = nameN k'
              · rw [h2, if_pos rfl]; exact hgk
              · rw [if_neg (fun e => h2 e.symm)]
                exact hgo x h1 h2 h3
        have fin : ∀ t : DS, t.off = false → t.files = [⟨sMark, 0, mark, (mark.size : Int)⟩, f] → namesD t [] = [sMark, nameN k'] ∧ loadD t = ((k' : Int), d', 0) := fun t ho hft => by
          have hfn := (getF_some hf).2
          refine ⟨by rw [namesD_all, hft]; show [sMark, f.name] = _; rw [hfn], ?_⟩
          rw [loadD_eq, read_some ho (f := ⟨sMark, 0, mark, (mark.size : Int)⟩) (by rw [hft, getF_cons, if_pos rfl]), if_pos rfl]
          dsimp only
          rw [hm]
          simp only
          rw [loadF_eq, read_some ho (f := f) (by rw [hft, getF_cons, if_neg (fun e => ne_mark k' e.symm), getF_cons, if_pos hfn]), if_pos rfl]
          dsimp only
          rw [hd]
        have hsw : sweepD s = if (deleteD t1 sFresh).2 = 0 then ((deleteD t1 sFresh).1, (cnt : Int) + 1, 0) else if (deleteD t1 sFresh).2 = 7 then ((deleteD t1 sFresh).1, 0, 7) else ((deleteD t1 sFresh).1, (cnt : Int), 0) := by
          rw [sweepD_eq, hl]
          dsimp only
          rw [if_pos rfl, hnn, hod]
          dsimp only
          rw [if_pos rfl]
        cases hfr : getF fs1 sFresh with
        | none =>
          have hdl := delete_gone t1 sFresh sFresh_may (by rw [hc2.files]; exact hfr)
          have hus : useD t1 = ({ t1 with uses := t1.uses + 1 }, true) := by
            unfold useD
            rw [if_neg (by rw [hc2.off]; decide), if_neg (by rw [hc2.armed]; simp), if_neg (by rw [hc2.armed]; decide)]
          rw [hus] at hdl
          dsimp only at hdl
          rw [if_pos rfl] at hdl
          rw [hdl] at hsw
          dsimp only at hsw
          rw [if_neg (by decide), if_neg (by decide)] at hsw
          have hf2 := key fs1 ha1 (fun x => by
            by_cases h3 : x = sFresh
            · rw [if_pos h3, h3]; exact hfr
            · rw [if_neg h3])
          have hl2 : fs1.length = 2 := by rw [hf2]; rfl
          have hlc := h.len
          have hfi := fin { t1 with uses := t1.uses + 1 } hc2.off (by show t1.files = _; rw [hc2.files, hf2])
          refine ⟨_, ?_, hfi.1, hfi.2, f, hf, hc2.off, hc2.armed, hc2.room, by show t1.files = _; rw [hc2.files, hf2], by show t1.uses + 1 ≤ _; have := hc2.uses; omega⟩
          rw [hsw]
          congr 2
          omega
        | some z =>
          have hdl := delete_op t1 sFresh sFresh_may (by rw [hc2.files, hfr]; rfl)
          rcases opD_cases t1 (fun fs => delF fs sFresh) with ⟨b1, b2, b3, _⟩ | ⟨_, _, _, b4⟩
          · rw [hdl] at hsw
            rw [if_pos b1] at hsw
            rw [hc2.files] at b2
            have hf2 := key (delF fs1 sFresh) (ha1.del _) (fun x => by rw [getF_del])
            have hl2 : (delF fs1 sFresh).length = 2 := by rw [hf2]; rfl
            have hl3 := delF_one ha1.names hfr
            have hlc := h.len
            have hfi := fin _ b3 (by rw [b2, hf2])
            have hok := opD_keeps t1 (fun fs => delF fs sFresh)
            refine ⟨_, ?_, hfi.1, hfi.2, f, hf, b3, hok.2.1.trans hc2.armed, hok.1.trans hc2.room, by rw [b2, hf2], by have := hc2.uses; have := hok.2.2; omega⟩
            rw [hsw]
            congr 2
            omega
          · exfalso
            rcases b4 with b4 | b4
            · rw [hc2.off] at b4; cases b4
            · rw [hc2.armed] at b4; cases b4
    · rw [if_neg h0] at ht; cases ht
end Go.Proofs.YtcbbdkennmopdaaGreatDoor.PK
/- snap: the plain law of SnapCrashes: what a crash within a Save leaves; what can be done behind it. -/
namespace Go.Proofs.YtcbbdkennmopdaaGreatDoor.PK
open Go.RowKit Go.Proofs.YtcbbdkennmopdaaGreatDoorW.PrintWords Go.Proofs.YtcbbdkennmopdaaGreatDoorW.PrintLast Go.Proofs.YtcbbdkennmopdaaGreatDoorW.PrintMore
open Go.Maps
/-- Files of a snapshot's disk, so many, of so many bytes. -/
structure Fit (fs : List Fl) (c u : Nat) : Prop where
  asc : Asc fs
  only : OnlyN fs
  ok : FlsOk fs
  len : fs.length ≤ c
  used : usedF fs ≤ u
theorem Fit.more {fs : List Fl} {c u c' u' : Nat} (h : Fit fs c u) (h1 : c ≤ c') (h2 : u ≤ u') : Fit fs c' u' := ⟨h.asc, h.only, h.ok, Nat.le_trans h.len h1, Nat.le_trans h.used h2⟩
theorem Fit.del {fs : List Fl} {c u : Nat} (h : Fit fs c u) (x : ByteArray) : Fit (delF fs x) c u :=
  ⟨h.asc.del x, fun f hf => h.only f (mem_delF.1 hf).1, fun f hf => h.ok f (mem_delF.1 hf).1, Nat.le_trans (delF_le _ _) h.len, Nat.le_trans (usedF_del _ _) h.used⟩
theorem Fit.put {fs : List Fl} {c u : Nat} (h : Fit fs c u) (x : Fl) (hn : mayN x.name = true) (ho : x.name = sMark ∨ x.name = sFresh ∨ hasP x.name sFront = true) : Fit (putF fs x) (c + 1) (u + x.data.size) := by
  refine ⟨h.asc.put x, fun f hf => ?_, fun f hf => ?_, ?_, ?_⟩
  · rcases mem_putF.1 hf with rfl | ⟨hf, _⟩
    · exact ho
    · exact h.only f hf
  · rcases mem_putF.1 hf with rfl | ⟨hf, _⟩
    · exact hn
    · exact h.ok f hf
  · have := putF_le fs x
    have := h.len
    omega
  · have := usedF_put fs x
    have := h.used
    omega
theorem only_names {fs fs' : List Fl} (hn : fs'.map (·.name) = fs.map (·.name)) (h : OnlyN fs) : OnlyN fs' := fun f hf => by
  have h1 : f.name ∈ fs.map (·.name) := by rw [← hn]; exact List.mem_map_of_mem hf
  obtain ⟨g, hg, e⟩ := List.mem_map.1 h1
  rw [← e]
  exact h g hg
theorem ok_names {fs fs' : List Fl} (hn : fs'.map (·.name) = fs.map (·.name)) (h : FlsOk fs) : FlsOk fs' := fun f hf => by
  have h1 : f.name ∈ fs.map (·.name) := by rw [← hn]; exact List.mem_map_of_mem hf
  obtain ⟨g, hg, e⟩ := List.mem_map.1 h1
  rw [← e]
  exact h g hg
theorem Fit.names {fs fs' : List Fl} {c u : Nat} (h : Fit fs c u) (hn : fs'.map (·.name) = fs.map (·.name)) (hu : usedF fs' ≤ usedF fs) : Fit fs' c u :=
  ⟨Asc.of_names h.asc hn, only_names hn h.only, ok_names hn h.ok, by have := congrArg List.length hn; rw [List.length_map, List.length_map] at this; rw [this]; exact h.len, Nat.le_trans hu h.used⟩
theorem Fit.upd {fs : List Fl} {c u : Nat} (h : Fit fs c u) (x : ByteArray) : Fit (updF fs x keepAll) c u := h.names (updF_names _ _ _ (fun _ => rfl)) (by rw [usedF_upd _ _ keepAll (fun _ => rfl)]; exact Nat.le_refl _)
/-- What is told of the files: nothing, or a number and its data, kept. -/
def SnapR (fs : List Fl) (r : Option (Nat × ByteArray)) : Prop :=
  match r with
  | none => getF fs sMark = none
  | some p => getF fs sMark = some (markF p.1) ∧ getF fs (nameN p.1) = some (fileF p.1 p.2)
def toldR (r : Option (Nat × ByteArray)) : Int × ByteArray × Int :=
  match r with
  | none => (0, sNone, 8)
  | some p => ((p.1 : Int), p.2, 0)
def filesR (r : Option (Nat × ByteArray)) : List Fl :=
  match r with
  | none => []
  | some p => cleanF p.1 p.2
def GoodR (r : Option (Nat × ByteArray)) : Prop := ∀ p, r = some p → p.1 ≤ 99999999 ∧ p.2.size ≤ 12000
theorem snapR_files (r : Option (Nat × ByteArray)) : SnapR (filesR r) r := by
  cases r with
  | none => rfl
  | some p =>
    refine ⟨?_, ?_⟩
    · show getF (cleanF p.1 p.2) sMark = _
      rw [getF_clean, if_pos rfl]
    · show getF (cleanF p.1 p.2) (nameN p.1) = _
      rw [getF_clean, if_neg (ne_mark _), if_pos rfl]
theorem file_small (n : Nat) (d : ByteArray) (h : d.size ≤ 12000) : (fileB n d).size ≤ 12042 := by
  have := file_le n d
  omega
theorem fit_files {r : Option (Nat × ByteArray)} (h : GoodR r) : Fit (filesR r) 2 12063 := by
  cases r with
  | none => exact ⟨asc_nil, only_nil, fls_nil, by decide, by decide⟩
  | some p =>
    have hp := h p rfl
    have h1 := markB_size p.1
    have h2 := file_small p.1 p.2 hp.2
    exact ⟨clean_asc _ _, clean_only _ _, clean_ok _ _, Nat.le_refl _, by show usedF (cleanF p.1 p.2) ≤ _; rw [clean_used]; omega⟩
theorem load_told {s : DS} {r : Option (Nat × ByteArray)} (h : s.off = false) (hs : SnapR s.files r) (hg : GoodR r) : loadD s = toldR r := by
  cases r with
  | none => exact load_none h hs
  | some p =>
    have hp := hg p rfl
    exact load_of h hs.1 rfl hs.2 rfl hp.1 (by have := hp.2; omega)
/-- A Save on a calm, clean disk. -/
theorem save_step {s : DS} {r : Option (Nat × ByteArray)} {u : Int} (h : Calm s 1048576 (filesR r) u) (hr : GoodR r) (n : Int) (d : ByteArray) (hd : d.size ≤ 12000) : ∃ r', GoodR r' ∧ Calm (saveD s n d).1 1048576 (filesR r') (u + 12) := by
  by_cases hc : saveC s n d = 0
  · have hm : mayS n = true := by
      cases hm : mayS n with
      | true => rfl
      | false =>
        unfold saveC at hc
        rw [if_pos hm] at hc
        omega
    have hm2 := hm
    unfold mayS at hm2
    simp only [Bool.and_eq_true, decide_eq_true_eq] at hm2
    obtain ⟨k, rfl⟩ : ∃ k : Nat, n = (k : Int) := ⟨n.toNat, by omega⟩
    have hf := fit_files hr
    have h9 := save_calm h hf.asc hf.only hf.ok (n := k) (d := d) (by omega) hc
    refine ⟨some (k, d), fun p hp => ?_, h9.2.more (by have := hf.len; omega)⟩
    injection hp with hp
    subst hp
    exact ⟨by omega, hd⟩
  · have e : saveD s n d = (s, saveC s n d) := by unfold saveD; rw [if_neg hc]
    rw [e]
    exact ⟨r, hr, h.more (by omega)⟩
/-- The changes that a Save makes, one by one. -/
def saveHead (n : Nat) (d : ByteArray) : List (List Fl → List Fl) := [fun fs => delF fs (nameN n), fun fs => delF fs sFresh, fun fs => putF fs ⟨nameN n, 0, fileB n d, 0⟩, fun fs => updF fs (nameN n) keepAll, fun fs => putF fs ⟨sFresh, 0, markB n, 0⟩, fun fs => updF fs sFresh keepAll, fun fs => renF fs sFresh sMark (freshF n)]
theorem saveOps_split (n : Nat) (d : ByteArray) (fs : List Fl) : saveOps n d fs = saveHead n d ++ delOps (nameN n) (snapsF (g7 n d fs)) := rfl
theorem snapR_keep {fs fs' : List Fl} {r : Option (Nat × ByteArray)} (h : SnapR fs r) (h1 : getF fs' sMark = getF fs sMark) (h2 : ∀ p, r = some p → getF fs' (nameN p.1) = getF fs (nameN p.1)) : SnapR fs' r := by
  cases r with
  | none => exact h1.trans h
  | some p => exact ⟨h1.trans h.1, (h2 p rfl).trans h.2⟩
theorem fit_head (n : Nat) (d : ByteArray) (hd : d.size ≤ 12000) {fs : List Fl} (h : Fit fs 2 12063) (j : Nat) (hj : j ≤ 7) : Fit (afterF ((saveHead n d).take j) fs) 5 24200 := by
  have h1 := markB_size n
  have h2 := file_small n d hd
  have a1 : Fit (delF fs (nameN n)) 2 12063 := h.del _
  have a2 : Fit (g2 n fs) 2 12063 := a1.del _
  have a3 : Fit (g3 n d fs) 3 (12063 + (fileB n d).size) := a2.put ⟨nameN n, 0, fileB n d, 0⟩ (nameN_may n) (.inr (.inr (nameN_front n)))
  have a4 : Fit (g4 n d fs) 3 (12063 + (fileB n d).size) := a3.upd _
  have a5 : Fit (g5 n d fs) 4 (12063 + (fileB n d).size + (markB n).size) := a4.put ⟨sFresh, 0, markB n, 0⟩ rfl (.inr (.inl rfl))
  have a6 : Fit (g6 n d fs) 4 (12063 + (fileB n d).size + (markB n).size) := a5.upd _
  have a7 : Fit (g7 n d fs) 5 (12063 + (fileB n d).size + (markB n).size + (markB n).size) := (a6.del sFresh).put (markF n) rfl (.inl rfl)
  match j, hj with
  | 0, _ => exact h.more (by omega) (by omega)
  | 1, _ => exact a1.more (by omega) (by omega)
  | 2, _ => exact a2.more (by omega) (by omega)
  | 3, _ => exact a3.more (by omega) (by omega)
  | 4, _ => exact a4.more (by omega) (by omega)
  | 5, _ => exact a5.more (by omega) (by omega)
  | 6, _ => exact a6.more (by omega) (by omega)
  | 7, _ => exact a7.more (by omega) (by omega)
theorem snap_head (n : Nat) (d : ByteArray) (hn : n ≤ 99999999) {fs : List Fl} {r : Option (Nat × ByteArray)} (h : SnapR fs r) (hg : GoodR r) (hne : ∀ p, r = some p → p.1 ≠ n) (j : Nat) (hj : j ≤ 6) : SnapR (afterF ((saveHead n d).take j) fs) r := by
  have m1 : sMark ≠ nameN n := fun e => ne_mark n e.symm
  have k1 : ∀ p, r = some p → nameN p.1 ≠ nameN n := fun p hp e => hne p hp (nameN_inj (hg p hp).1 hn e)
  have a1 : SnapR (delF fs (nameN n)) r := snapR_keep h (by rw [getF_del, if_neg m1]) (fun p hp => by rw [getF_del, if_neg (k1 p hp)])
  have a2 : SnapR (g2 n fs) r := snapR_keep h (by rw [getF_g2, if_neg mark_fresh, if_neg m1]) (fun p hp => by rw [getF_g2, if_neg (ne_fresh _), if_neg (k1 p hp)])
  have a3 : SnapR (g3 n d fs) r := snapR_keep a2 (by rw [getF_g3, if_neg m1]) (fun p hp => by rw [getF_g3, if_neg (k1 p hp)])
  have a4 : SnapR (g4 n d fs) r := snapR_keep a2 (by rw [getF_g4, if_neg m1]) (fun p hp => by rw [getF_g4, if_neg (k1 p hp)])
  have a5 : SnapR (g5 n d fs) r := snapR_keep a4 (by rw [getF_g5, if_neg mark_fresh]) (fun p hp => by rw [getF_g5, if_neg (ne_fresh _)])
  have a6 : SnapR (g6 n d fs) r := snapR_keep a4 (by rw [getF_g6, if_neg mark_fresh]) (fun p hp => by rw [getF_g6, if_neg (ne_fresh _)])
  match j, hj with
  | 0, _ => exact h
  | 1, _ => exact a1
  | 2, _ => exact a2
  | 3, _ => exact a3
  | 4, _ => exact a4
  | 5, _ => exact a5
  | 6, _ => exact a6
theorem snap_g7 (n : Nat) (d : ByteArray) (fs : List Fl) : SnapR (g7 n d fs) (some (n, d)) := by
  refine ⟨?_, ?_⟩
  · rw [getF_g7, if_pos rfl]
  · show getF (g7 n d fs) (nameN n) = _
    rw [getF_g7, if_neg (ne_mark n), if_neg (ne_fresh n), getF_g4, if_pos rfl]
theorem delOps_all (but : ByteArray) : ∀ (l : List ByteArray), ∀ F ∈ delOps but l, ∃ y, y ∈ l ∧ y ≠ but ∧ F = fun fs => delF fs y
  | [], F, h => by cases h
  | x :: r, F, h => by
    unfold delOps at h
    by_cases hb : x = but
    · rw [if_pos hb] at h
      obtain ⟨y, h1, h2⟩ := delOps_all but r F h
      exact ⟨y, List.mem_cons_of_mem _ h1, h2⟩
    · rw [if_neg hb] at h
      rcases List.mem_cons.1 h with rfl | h
      · exact ⟨x, List.mem_cons_self, hb, rfl⟩
      · obtain ⟨y, h1, h2⟩ := delOps_all but r F h
        exact ⟨y, List.mem_cons_of_mem _ h1, h2⟩
theorem dels_keep (n : Nat) (d : ByteArray) {c u : Nat} : ∀ (ops : List (List Fl → List Fl)) (fs : List Fl), (∀ F ∈ ops, ∃ y, y ≠ sMark ∧ y ≠ nameN n ∧ F = fun fs => delF fs y) → Fit fs c u → SnapR fs (some (n, d)) → Fit (afterF ops fs) c u ∧ SnapR (afterF ops fs) (some (n, d))
  | [], fs, _, hf, hs => ⟨hf, hs⟩
  | F :: r, fs, h, hf, hs => by
    obtain ⟨y, h1, h2, rfl⟩ := h F List.mem_cons_self
    rw [afterF_cons]
    refine dels_keep n d r _ (fun G hG => h G (List.mem_cons_of_mem _ hG)) (hf.del y) (snapR_keep hs (by rw [getF_del, if_neg (fun e => h1 e.symm)]) (fun p hp => ?_))
    injection hp with hp
    subst hp
    show getF (delF fs y) (nameN n) = _
    rw [getF_del, if_neg (fun e => h2 e.symm)]
/-- Wherever the power goes off: what was told, or what was saved. -/
theorem save_prefix (n : Nat) (d : ByteArray) (hn : n ≤ 99999999) (hd : d.size ≤ 12000) {fs : List Fl} {r : Option (Nat × ByteArray)} (h : Fit fs 2 12063) (hs : SnapR fs r) (hg : GoodR r) (hne : ∀ p, r = some p → p.1 ≠ n) (j : Nat) :
    Fit (afterF ((saveOps n d fs).take j) fs) 5 24200 ∧ (SnapR (afterF ((saveOps n d fs).take j) fs) r ∨ SnapR (afterF ((saveOps n d fs).take j) fs) (some (n, d))) := by
  have hl : (saveHead n d).length = 7 := rfl
  by_cases hj : j ≤ 6
  · have e : (saveOps n d fs).take j = (saveHead n d).take j := by rw [saveOps_split, List.take_append_of_le_length (by omega)]
    rw [e]
    exact ⟨fit_head n d hd h j (by omega), .inl (snap_head n d hn hs hg hne j hj)⟩
  · have e : (saveOps n d fs).take j = saveHead n d ++ (delOps (nameN n) (snapsF (g7 n d fs))).take (j - 7) := by
      rw [saveOps_split, List.take_append, hl, List.take_of_length_le (by omega)]
    rw [e, afterF_append]
    have e7 : afterF (saveHead n d) fs = g7 n d fs := rfl
    rw [e7]
    have hk := dels_keep n d ((delOps (nameN n) (snapsF (g7 n d fs))).take (j - 7)) (g7 n d fs) (fun F hF => by
      obtain ⟨y, h1, h2, h3⟩ := delOps_all _ _ F (List.mem_of_mem_take hF)
      refine ⟨y, fun e => ?_, h2, h3⟩
      have := (mem_snaps.1 h1).2
      rw [e, mark_front] at this
      cases this) (fit_head n d hd h 7 (by omega)) (snap_g7 n d fs)
    exact ⟨hk.1, .inr hk.2⟩
theorem crash_kept (f : Fl) (m : Int) (hm : 0 ≤ m) (h : f.kept = (f.data.size : Int)) : crashFl m f = f := by
  have hk : keepN f m = (f.data.size : Int) := by unfold keepN; rw [h]; omega
  unfold crashFl
  rw [hk, Int.toNat_natCast]
  have hd : f.data.extract 0 f.data.size = f.data := by
    apply ByteArray.ext
    simp
  rw [hd]
  cases f
  simp only at h ⊢
  rw [h]
theorem getF_mapIdx : ∀ (fs : List Fl) (φ : Nat → Fl → Fl), (∀ i x, (φ i x).name = x.name) → ∀ y, (getF fs y = none → getF (fs.mapIdx φ) y = none) ∧ ∀ f, getF fs y = some f → ∃ i, getF (fs.mapIdx φ) y = some (φ i f)
  | [], φ, _, y => ⟨fun _ => rfl, fun f h => by rw [getF_nil] at h; cases h⟩
  | x :: r, φ, hφ, y => by
    have ih := getF_mapIdx r (fun i => φ (i + 1)) (fun i x => hφ (i + 1) x) y
    rw [List.mapIdx_cons, getF_cons, getF_cons, hφ]
    by_cases h : x.name = y
    · rw [if_pos h, if_pos h]
      exact ⟨fun h => (by cases h), fun f hf => by injection hf with hf; subst hf; exact ⟨0, rfl⟩⟩
    · rw [if_neg h, if_neg h]
      refine ⟨ih.1, fun f hf => ?_⟩
      obtain ⟨i, hi⟩ := ih.2 f hf
      exact ⟨i + 1, hi⟩
theorem usedF_mapIdx : ∀ (fs : List Fl) (φ : Nat → Fl → Fl), (∀ i x, (φ i x).data.size ≤ x.data.size) → usedF (fs.mapIdx φ) ≤ usedF fs
  | [], φ, _ => Nat.le_refl _
  | x :: r, φ, h => by
    rw [List.mapIdx_cons, usedF_cons, usedF_cons]
    have h1 := h 0 x
    have h2 := usedF_mapIdx r (fun i => φ (i + 1)) (fun i x => h (i + 1) x)
    omega
theorem crash_fit {fs : List Fl} {c u : Nat} (h : Fit fs c u) (keep : List Int) (k : Nat) : Fit (crashK fs keep k) c u := by
  refine h.names (crashK_names fs keep k) (usedF_mapIdx fs _ fun i x => ?_)
  split
  · unfold crashFl
    show (x.data.extract 0 _).size ≤ _
    rw [ByteArray.size_extract]
    omega
  · exact Nat.le_refl _
theorem crash_snap {fs : List Fl} {r : Option (Nat × ByteArray)} (h : SnapR fs r) (keep : List Int) (k : Nat) : SnapR (crashK fs keep k) r := by
  have hg := getF_mapIdx fs (fun i x => if i < k then crashFl (moreK keep i) x else x) (fun i x => by split <;> rfl)
  have hk : ∀ y f, getF fs y = some f → f.kept = (f.data.size : Int) → getF (crashK fs keep k) y = some f := fun y f hf hkf => by
    obtain ⟨i, hi⟩ := (hg y).2 f hf
    unfold crashK
    rw [hi]
    split
    · rw [crash_kept f _ (moreK_pos _ _) hkf]
    · rfl
  cases r with
  | none => exact (hg sMark).1 h
  | some p => exact ⟨hk _ _ h.1 rfl, hk _ _ h.2 rfl⟩
/-- A disk that is on, whose files tell r. -/
structure Semi (s : DS) (r : Option (Nat × ByteArray)) : Prop where
  calm : ∃ fs, Calm s 1048576 fs 2000
  fit : Fit s.files 5 24200
  snap : SnapR s.files r
  good : GoodR r
theorem Semi.off {s : DS} {r : Option (Nat × ByteArray)} (h : Semi s r) : s.off = false := by obtain ⟨fs, hc⟩ := h.calm; exact hc.off
theorem Semi.uses {s : DS} {r : Option (Nat × ByteArray)} (h : Semi s r) : s.uses ≤ 2000 := by obtain ⟨fs, hc⟩ := h.calm; exact hc.uses
theorem semi_load {s : DS} {r : Option (Nat × ByteArray)} (h : Semi s r) : loadD s = toldR r := load_told h.off h.snap h.good
theorem semi_save {s : DS} {fs : List Fl} {u : Int} (hc : Calm s 1048576 fs u) (hf : Fit fs 5 24200) {k : Nat} {d : ByteArray} (hk : k ≤ 99999999) (hd : d.size ≤ 12000) (hl : ¬ ((loadD s).2.2 = 0 ∧ (loadD s).1 = (k : Int))) : (saveD s (k : Int) d).2 = 0 ∧ loadD (saveD s (k : Int) d).1 = ((k : Int), d, 0) := by
  have hnd := need_le d
  have hu := hf.used
  have hln := hf.len
  have h0 : saveC s (k : Int) d = 0 := saveC_zero hk hc.off hl (by omega) (by rw [free_calm hc]; omega) (by rw [hc.files]; omega)
  have h1 := save_calm hc hf.asc hf.only hf.ok hk h0
  exact ⟨h1.1, load_clean h1.2.off h1.2.files hk (by omega)⟩
theorem semi_sweep {s : DS} {p : Nat × ByteArray} (h : Semi s (some p)) : ∃ (t : DS) (x : Int), sweepD s = (t, x, 0) ∧ Calm t 1048576 (cleanF p.1 p.2) 2006 := by
  have hp := h.good p rfl
  have hL : Lain s (markB p.1) 5 24200 := ⟨h.calm, h.fit.asc, h.fit.only, h.fit.ok, h.snap.1, h.fit.len, h.fit.used⟩
  have ht : toldL s (markB p.1) = some p := by
    unfold toldL
    rw [markedB_mark p.1 hp.1]
    simp only
    rw [read_some h.off h.snap.2, if_pos rfl]
    show (dataB p.1 (fileB p.1 p.2)).map _ = _
    rw [dataB_file p.1 p.2 (by have := hp.2; omega)]
    rfl
  obtain ⟨_, _, t, hs, _, _, f, hf, hc⟩ := lain_yes hL ht
  refine ⟨t, _, hs, ?_⟩
  rw [h.snap.2] at hf
  injection hf with hf
  subst hf
  exact hc
/-- A crash at any use within a Save. -/
theorem crash_law {s : DS} {r : Option (Nat × ByteArray)} (h : Calm s 1048576 (filesR r) 200) (hr : GoodR r) (n : Nat) (hn : n ≤ 99999999) (d : ByteArray) (hd : d.size ≤ 12000) (k : Int) (keep : List Int) :
    ∃ r2, Semi (crashD (saveD (armD s k) (n : Int) d).1 keep) r2 ∧ (r2 = r ∨ r2 = some (n, d)) ∧ (((saveD (armD s k) (n : Int) d).2 = 0 ∧ r2 = some (n, d)) ∨ (saveD (armD s k) (n : Int) d).2 = 7 ∨ ((saveD (armD s k) (n : Int) d).2 = 9 ∧ (toldR r).1 = (n : Int))) := by
  have hfit := fit_files hr
  have hsn := snapR_files r
  have hfs := h.files
  have ha : (armD s k).off = false ∧ (armD s k).room = 1048576 ∧ (armD s k).files = filesR r ∧ (armD s k).uses ≤ 200 := ⟨h.off, h.room, h.files, h.uses⟩
  generalize armD s k = a at ha
  obtain ⟨a1, a2, a3, a4⟩ := ha
  have hl : loadD a = toldR r := load_told a1 (by rw [a3]; exact hsn) hr
  by_cases htw : (loadD a).2.2 = 0 ∧ (loadD a).1 = (n : Int)
  · have hc : saveC a (n : Int) d = 9 := by
      unfold saveC
      rw [if_neg (by unfold mayS; simp; omega), if_neg (by rw [a1]; decide), if_pos htw]
    have e : saveD a (n : Int) d = (a, 9) := by
      unfold saveD
      rw [if_neg (by rw [hc]; decide), hc]
    rw [e]
    refine ⟨r, ⟨⟨_, rfl, rfl, a2, rfl, by show a.uses ≤ _; omega⟩, ?_, ?_, hr⟩, .inl rfl, .inr (.inr ⟨rfl, by rw [← hl]; exact htw.2⟩)⟩
    · show Fit (crashK a.files keep _) 5 24200
      rw [a3]
      exact (crash_fit hfit keep _).more (by omega) (by omega)
    · show SnapR (crashK a.files keep _) r
      rw [a3]
      exact crash_snap hsn keep _
  · have hne : ∀ p, r = some p → p.1 ≠ n := fun p hp e => htw (by
      rw [hl, hp]
      exact ⟨rfl, by show ((p.1 : Nat) : Int) = _; rw [e]⟩)
    have hnd := need_le d
    have hu := hfit.used
    have hln := hfit.len
    have h0 : saveC a (n : Int) d = 0 := saveC_zero hn a1 htw (by omega) (by unfold freeD; rw [a2, a3]; omega) (by rw [a3]; omega)
    have hsv := (save_is hn (by rw [a3]; exact hfit.asc) (by rw [a3]; exact hfit.ok) h0).1
    have hln2 := saveOps_len n d a.files
    have hkp := runs_keeps (saveOps n d a.files) a
    rw [a3] at hln2
    rw [hsv]
    have hfin : ∀ t : DS, ∀ r2, GoodR r2 → t.room = 1048576 → t.uses ≤ 300 → Fit t.files 5 24200 → SnapR t.files r2 → Semi (crashD t keep) r2 := fun t r2 q1 q2 q3 q4 q5 =>
      ⟨⟨_, rfl, rfl, q2, rfl, by show t.uses ≤ _; omega⟩, crash_fit q4 keep _, crash_snap q5 keep _, q1⟩
    have hgn : GoodR (some (n, d)) := fun p hp => by
      injection hp with hp
      subst hp
      exact ⟨hn, hd⟩
    have hroom : (runsD (saveOps n d a.files) a).1.room = 1048576 := hkp.1.trans a2
    have huses : (runsD (saveOps n d a.files) a).1.uses ≤ 300 := by have := hkp.2.2; rw [a3] at this ⊢; omega
    rcases runs_cases (saveOps n d a.files) a a1 with ⟨b1, b2, _⟩ | ⟨b1, _, _, j, _, b5⟩
    · have e : afterF (saveOps n d a.files) a.files = afterF ((saveOps n d (filesR r)).take (saveOps n d (filesR r)).length) (filesR r) := by rw [a3, List.take_length]
      have hpre := save_prefix n d hn hd hfit hsn hr hne (saveOps n d (filesR r)).length
      rw [← e, ← b2] at hpre
      have hcl : (runsD (saveOps n d a.files) a).1.files = cleanF n d := by
        rw [b2, a3]
        exact saved_files n d _ hfit.asc hfit.only
      refine ⟨some (n, d), hfin _ _ hgn hroom huses hpre.1 ?_, .inr rfl, .inl ⟨b1, rfl⟩⟩
      rw [hcl]
      exact snapR_files (some (n, d))
    · have hpre := save_prefix n d hn hd hfit hsn hr hne j
      rw [← a3, ← b5] at hpre
      rcases hpre.2 with h9 | h9
      · exact ⟨r, hfin _ _ hr hroom huses hpre.1 h9, .inl rfl, .inr (.inl b1)⟩
      · exact ⟨some (n, d), hfin _ _ hgn hroom huses hpre.1 h9, .inr rfl, .inr (.inl b1)⟩
end Go.Proofs.YtcbbdkennmopdaaGreatDoor.PK
/- What the printed references' Open and All come to (printed with PB). -/
namespace Go.Proofs.YtcbbdkennmopdaaGreatDoor.PB
open Go.RowKit Go.Proofs.YtcbbdkennmopdaaGreatDoorW.PrintWords Go.Proofs.YtcbbdkennmopdaaGreatDoorW.PrintLast Go.Proofs.YtcbbdkennmopdaaGreatDoorW.PrintMore
open Go.Proofs.YtcbbdkennmopdaaGreatDoor.PR (wrap64_id wrap64_nat ends_at length_at)
open Go.Proofs.YtcbbdkennmopdaaGreatDoor.PA
end Go.Proofs.YtcbbdkennmopdaaGreatDoor.PB
/- The document's answers for snap: what the printed references come to. -/
namespace Go.Proofs.YtcbbdkennmopdaaGreatDoor.PB
open Go.RowKit Go.Proofs.YtcbbdkennmopdaaGreatDoorW.PrintWords Go.Proofs.YtcbbdkennmopdaaGreatDoorW.PrintLast Go.Proofs.YtcbbdkennmopdaaGreatDoorW.PrintMore
open Go.Proofs.YtcbbdkennmopdaaGreatDoor.PR (wrap64_id wrap64_nat)
open Go.Proofs.YtcbbdkennmopdaaGreatDoor.PA (ext_mkB drop_ext allB)
open Go.Proofs.YtcbbdkennmopdaaGreatDoor.Crc (mkB mkB_size mkB_list mkB_append beK numL framesL cutsL frame)
theorem cat_drop (l : List ByteArray) (i : Nat) (h : i < l.length) : PK.catS (l.drop i) = l[i] ++ PK.catS (l.drop (i + 1)) := by
  rw [List.drop_eq_getElem_cons h]
  generalize l.drop (i + 1) = r
  generalize l[i] = x
  apply ByteArray.ext
  unfold PK.catS
  simp
end Go.Proofs.YtcbbdkennmopdaaGreatDoor.PB
/- snap: what the law's own functions great and join come to. Plain. -/
namespace Go.Proofs.YtcbbdkennmopdaaGreatDoor.PK
open Go.RowKit Go.Proofs.YtcbbdkennmopdaaGreatDoorW.PrintWords Go.Proofs.YtcbbdkennmopdaaGreatDoorW.PrintLast Go.Proofs.YtcbbdkennmopdaaGreatDoorW.PrintMore
open Go.Proofs.YtcbbdkennmopdaaGreatDoor.PR
theorem join26_go (l : List ByteArray) (hl : l.length ≤ 1000000) : ∀ (n i k : Nat) (acc : ByteArray), i + n = l.length → n + 1 ≤ k → acc.size + sumS (l.drop i) ≤ 9223372036854775807 → affluxlaw26_join.l0 k l acc (i : Int) = some (acc ++ catS (l.drop i)) := by
  intro n
  induction n with
  | zero =>
    intro i k acc hi hk hs
    obtain ⟨k, rfl⟩ : ∃ m, k = m + 1 := ⟨k - 1, by omega⟩
    simp only [affluxlaw26_join.l0]
    rw [if_neg (by omega), List.drop_of_length_le (by omega)]
    exact congrArg some (ByteArray.append_empty).symm
  | succ n ih =>
    intro i k acc hi hk hs
    obtain ⟨k, rfl⟩ : ∃ m, k = m + 1 := ⟨k - 1, by omega⟩
    have hil : i < l.length := by omega
    have e : l.drop i = l[i] :: l.drop (i + 1) := List.drop_eq_getElem_cons hil
    have ec : catS (l.drop i) = l[i] ++ catS (l.drop (i + 1)) := PB.cat_drop l i hil
    have es : sumS (l.drop i) = l[i].size + sumS (l.drop (i + 1)) := by
      rw [e]
      unfold sumS
      rw [List.map_cons, List.sum_cons]
    rw [es] at hs
    rw [ec, ← ByteArray.append_assoc]
    simp only [affluxlaw26_join.l0]
    rw [if_pos (by omega), if_pos (by omega), rdS_at l i hil, if_pos (by omega), wrap64_id _ (by omega) (by omega), show (i : Int) + 1 = ((i + 1 : Nat) : Int) by omega]
    exact ih (i + 1) k _ (by omega) (by omega) (by rw [ByteArray.size_append]; omega)
theorem join26_at (l : List ByteArray) (k : Nat) (hk : l.length + 1 ≤ k) (hl : l.length ≤ 1000000) (hs : sumS l ≤ 9223372036854775807) : affluxlaw26_join.f k l = some (catS l) := by
  unfold affluxlaw26_join.f
  have := join26_go l hl l.length 0 k ⟨#[]⟩ (by omega) hk (by rw [List.drop_zero]; show 0 + _ ≤ _; omega)
  rw [List.drop_zero, empty_app] at this
  exact this
/-- An act within the law's bounds. -/
def SmallA (x : S53) : Prop := x.f1.length ≤ 6 ∧ ∀ s ∈ x.f1, s.size ≤ 2000
theorem rdT_at (xs : List S53) (i : Nat) (h : i < xs.length) : rd_T53 xs (i : Int) = xs[i] := by simp [rd_T53, List.getD, h]
theorem great_go (l : List S53) (hl : l.length ≤ 12) : ∀ (m i k : Nat), i + m = l.length → 8 * m + 1 ≤ k → ∃ b, affluxlaw26_great.l0 k l (i : Int) = some b ∧ (b = false → ∀ x ∈ l.drop i, SmallA x) := by
  intro m
  induction m with
  | zero =>
    intro i k hi hk
    obtain ⟨k, rfl⟩ : ∃ m, k = m + 1 := ⟨k - 1, by omega⟩
    simp only [affluxlaw26_great.l0]
    rw [if_neg (by omega), List.drop_of_length_le (by omega)]
    exact ⟨_, rfl, fun _ x hx => by cases hx⟩
  | succ m ih =>
    intro i k hi hk
    obtain ⟨k, rfl⟩ : ∃ m, k = m + 1 := ⟨k - 1, by omega⟩
    have hil : i < l.length := by omega
    simp only [affluxlaw26_great.l0]
    rw [if_pos (by omega), if_pos (by omega), rdT_at l i hil]
    by_cases h6 : l[i].f1.length ≤ 6
    · rw [if_neg (by omega)]
      have inner : ∀ (q j k : Nat), j + q = l[i].f1.length → q + 2 + 8 * m ≤ k → ∃ b, affluxlaw26_great.l1 k l (i : Int) (j : Int) = some b ∧ (b = false → (∀ s ∈ l[i].f1.drop j, s.size ≤ 2000) ∧ ∀ x ∈ l.drop (i + 1), SmallA x) := by
        intro q
        induction q with
        | zero =>
          intro j k hj hk
          obtain ⟨k, rfl⟩ : ∃ m, k = m + 1 := ⟨k - 1, by omega⟩
          simp only [affluxlaw26_great.l1]
          rw [if_pos (by omega), if_pos (by omega), rdT_at l i hil, if_neg (by omega), wrap64_id _ (by omega) (by omega), show (i : Int) + 1 = ((i + 1 : Nat) : Int) by omega]
          obtain ⟨b, h1, h2⟩ := ih (i + 1) k (by omega) (by omega)
          exact ⟨b, h1, fun hb => ⟨fun s hs => (by rw [List.drop_of_length_le (by omega)] at hs; cases hs), h2 hb⟩⟩
        | succ q ihq =>
          intro j k hj hk
          obtain ⟨k, rfl⟩ : ∃ m, k = m + 1 := ⟨k - 1, by omega⟩
          have hjl : j < l[i].f1.length := by omega
          simp only [affluxlaw26_great.l1]
          rw [if_pos (by omega), if_pos (by omega), rdT_at l i hil, if_pos (by omega), if_pos (by omega), rdS_at _ j hjl]
          by_cases h2 : l[i].f1[j].size ≤ 2000
          · rw [if_neg (by omega), wrap64_id _ (by omega) (by omega), show (j : Int) + 1 = ((j + 1 : Nat) : Int) by omega]
            obtain ⟨b, h3, h4⟩ := ihq (j + 1) k (by omega) (by omega)
            refine ⟨b, h3, fun hb => ⟨fun s hs => ?_, (h4 hb).2⟩⟩
            rw [List.drop_eq_getElem_cons hjl] at hs
            rcases List.mem_cons.1 hs with rfl | hs
            · exact h2
            · exact (h4 hb).1 s hs
          · rw [if_pos (by omega)]
            exact ⟨_, rfl, fun hb => by cases hb⟩
      obtain ⟨b, h3, h4⟩ := inner l[i].f1.length 0 k (by omega) (by omega)
      refine ⟨b, h3, fun hb x hx => ?_⟩
      rw [List.drop_eq_getElem_cons hil] at hx
      rcases List.mem_cons.1 hx with rfl | hx
      · exact ⟨h6, fun s hs => (h4 hb).1 s (by rw [List.drop_zero]; exact hs)⟩
      · exact (h4 hb).2 x hx
    · rw [if_pos (by omega)]
      exact ⟨_, rfl, fun hb => by cases hb⟩
theorem great_at (l : List S53) : ∃ b, affluxlaw26_great.f 100 l = some b ∧ (b = false → l.length ≤ 12 ∧ ∀ x ∈ l, SmallA x) := by
  unfold affluxlaw26_great.f
  by_cases h : l.length ≤ 12
  · rw [if_neg (by omega)]
    obtain ⟨b, h1, h2⟩ := great_go l h l.length 0 100 (by omega) (by omega)
    exact ⟨b, h1, fun hb => ⟨h, fun x hx => h2 hb x (by rw [List.drop_zero]; exact hx)⟩⟩
  · rw [if_pos (by omega)]
    exact ⟨_, rfl, fun hb => by cases hb⟩
theorem sumS_le : ∀ (l : List ByteArray) (m : Nat), (∀ s ∈ l, s.size ≤ m) → sumS l ≤ l.length * m
  | [], m, _ => by simp [sumS]
  | s :: r, m, h => by
    have h1 := sumS_le r m (fun x hx => h x (List.mem_cons_of_mem _ hx))
    have h2 := h s List.mem_cons_self
    have e : sumS (s :: r) = s.size + sumS r := by simp [sumS]
    rw [e, List.length_cons, Nat.add_mul]
    omega
theorem small_sum {x : S53} (h : SmallA x) : sumS x.f1 ≤ 12000 := by
  have h1 := sumS_le x.f1 2000 h.2
  have h2 := h.1
  omega
theorem small_cat {x : S53} (h : SmallA x) : (catS x.f1).size ≤ 12000 := by
  rw [catS_size]
  exact small_sum h
end Go.Proofs.YtcbbdkennmopdaaGreatDoor.PK
/- snap: the walk of SnapNone. -/
namespace Go.Proofs.YtcbbdkennmopdaaGreatDoor.PK
open Go.RowKit Go.Proofs.YtcbbdkennmopdaaGreatDoorW.PrintWords Go.Proofs.YtcbbdkennmopdaaGreatDoorW.PrintLast Go.Proofs.YtcbbdkennmopdaaGreatDoorW.PrintMore
open Go.Maps
theorem may_is (n : Int) : PR.affluxlaw26_may.f n = some (mayS n) := by
  unfold PR.affluxlaw26_may.f mayS
  by_cases h : n ≥ 0
  · rw [if_pos h, decide_eq_true (show 0 ≤ n from h), Bool.true_and]
  · rw [if_neg h, decide_eq_false (show ¬ 0 ≤ n from h), Bool.false_and]
end Go.Proofs.YtcbbdkennmopdaaGreatDoor.PK
/- snap: the walk of SnapCrashes. -/
namespace Go.Proofs.YtcbbdkennmopdaaGreatDoor.PK
open Go.RowKit Go.Proofs.YtcbbdkennmopdaaGreatDoorW.PrintWords Go.Proofs.YtcbbdkennmopdaaGreatDoorW.PrintLast Go.Proofs.YtcbbdkennmopdaaGreatDoorW.PrintMore
open Go.Maps
open Go.Proofs.YtcbbdkennmopdaaGreatDoor.PR (S53 k53 k53_mk at_T53)
theorem actC_one {W : World} {b t : Nat} {x : S53} {A1 : Option Addr} {c1 : Nat} (hb : W.heap[b]? = some (.cells #[.int .i64 x.f0, .slice A1 x.f1.length c1] t (0, 0))) (hc : x.f1.length ≤ c1) (hC : Kd.C Kd.string W A1 x.f1.length x.f1) : Kd.C k53 W (some ⟨b, 0, none⟩) 1 [x] := by
  refine ⟨rfl, by omega, fun _ => ⟨_, rfl, fun j p hp => ?_⟩⟩
  cases j with
  | succ j => simp at hp
  | zero =>
    obtain rfl : x = p := by simpa using hp
    refine ⟨[.int .i64 x.f0, .slice A1 x.f1.length c1], rfl, k53_mk W x hc hC, fun i u hu => ?_⟩
    rw [add_plain, blk_cell hb]
    rw [← hu]
    match i with
    | 0 => rfl
    | 1 => rfl
    | i + 2 => simp
theorem below_cell0 {w w5 : World} {a : Addr} {v : Value} (hb : Below w.heap.size w w5) (hc : w.cell? a = some v) : w5.cell? a = some v := (hb.cell (World.block_lt_of_cell? w _ hc)).trans hc
theorem mayS_int {x : Int} (h : mayS x = true) : ((x.toNat : Nat) : Int) = x ∧ x.toNat ≤ 99999999 := by
  unfold mayS at h
  simp only [Bool.and_eq_true, decide_eq_true_eq] at h
  omega
def aAgain : ByteArray := ⟨#[97, 103, 97, 105, 110]⟩
set_option maxHeartbeats 16000000 in
set_option maxRecDepth 100000 in
theorem SnapCrashes_calls (A : Option Addr) (cA : Nat) (l : List S53) (x : S53) (A1 : Option Addr) (c1 : Nat) (arm : Nat) (B : Option Addr) (cB : Nat) (keep : List Int) (w : World) (hT : SumW.Tab w) (hA : Kd.C k53 w A l.length l) (hcA : l.length ≤ cA) (hX : Kd.C Kd.string w A1 x.f1.length x.f1) (hc1 : x.f1.length ≤ c1) (harm : arm < 256) (hB : Kd.C (Kd.int .i64) w B keep.length keep) :
    Calls Tryz.prog 6 #[.slice A l.length cA, .agg #[.int .i64 x.f0, .slice A1 x.f1.length c1], .int .u8 (arm : Int), .slice B keep.length cB] w fun e w' => e = .returned (.bool true) ∧ Below w.heap.size w w' := by
  obtain ⟨gr, hg1, hg2⟩ := great_at l
  obtain ⟨gx, hx1, hx2⟩ := great_at [x]
  have HTT := Aside0.mk hT
  have HA := Aside0.mk hA
  have HCA := Aside0.mk hcA
  have HX := Aside0.mk hX
  have HC1 := Aside0.mk hc1
  have HB := Aside0.mk hB
  have HG1 := Aside0.mk hg1
  have HG2 := Aside0.mk hg2
  have HX1 := Aside0.mk hx1
  have HX2 := Aside0.mk hx2
  have HB0 := Aside0.mk (below_alloc (Below.refl w.heap.size w) (.cells #[.int .i64 x.f0, .slice A1 x.f1.length c1] 53))
  have hq0 : (w.alloc (.cells #[.int .i64 x.f0, .slice A1 x.f1.length c1] 53)).cell? ⟨w.heap.size, 0, none⟩ = some (.int .i64 x.f0) := (blk_cell (blk_new w _) 0).trans rfl
  have hq1 : (w.alloc (.cells #[.int .i64 x.f0, .slice A1 x.f1.length c1] 53)).cell? ⟨w.heap.size, 1, none⟩ = some (.slice A1 x.f1.length c1) := (blk_cell (blk_new w _) 1).trans rfl
  obtain ⟨q, hq⟩ : ∃ q, q = arm % 14 := ⟨_, rfl⟩
  have hr1 : Int.tmod (arm : Int) 14 = (q : Int) := by rw [Int.tmod_eq_emod_of_nonneg (by omega)]; omega
  have hr2 : (arm : Int) % 14 = (q : Int) := by omega
  have hql : q < 14 := by omega
  have hw0 : IntKind.u8.wrap (q : Int) = (q : Int) := by rw [IntKind.wrap_u8]; omega
  have hw1 : IntKind.i64.wrap (q : Int) = (q : Int) := by rw [IntKind.wrap_i64]; omega
  have hw2 : wrap64 (q : Int) = (q : Int) := by unfold wrap64; omega
  have HQL := Aside0.mk hql
  have hmx := Kd.C_max hA
  have HMX := Aside0.mk hmx
  clear hT hA hcA hX hc1 hB hg1 hg2 hx1 hx2 hq harm hql hmx
  go_enter Tryz.func6, Tryz.ntmps6
  go_wp2_with fail
  generalize w.alloc (.cells #[.int .i64 x.f0, .slice A1 x.f1.length c1] 53) = W0 at HB0 hq0 hq1 ⊢
  have HQ := Aside0.mk (And.intro hq0 hq1)
  have HTW := Aside0.mk (HTT.out.below HB0.out HTT.out.lt)
  refine (PR.affluxlaw26_great.calls 100 A cA l gr W0 (Kd.C_below HA.out HB0.out) HCA.out HG1.out).mono ?_
  rintro e w1 ⟨rfl, hd1⟩
  have HB1 := Aside0.mk (below_drawn (Below.refl W0.heap.size W0) hd1)
  clear hd1 hq0 hq1
  cases gr with
  | true =>
    go_wp2_with fail
    refine (awake_calls w1 (HTW.out.below HB1.out HTW.out.lt)).mono ?_
    rintro e w2 ⟨rfl, hb2⟩
    have HB2 := Aside0.mk (below_step HB0.out (below_step HB1.out hb2))
    clear hb2
    go_wp2_with fail
    go_ret
    exact ⟨rfl, HB2.out⟩
  | false =>
    have HSM := Aside0.mk (HG2.out rfl)
    have hq0 := below_cell0 HB1.out HQ.out.1
    have hq1 := below_cell0 HB1.out HQ.out.2
    clear HG1 HG2
    go_wp2_with fail
    refine (PR.affluxlaw26_great.calls 100 (some ⟨w1.heap.size, 0, none⟩) 1 [x] gx _ (actC_one (blk_new w1 _) HC1.out (Kd.C_below HX.out (below_step (below_step HB0.out HB1.out) (below_alloc (Below.refl _ _) _)))) (by simp) HX1.out).mono ?_
    rintro e w2 ⟨rfl, hd2⟩
    have HB2 := Aside0.mk (below_drawn (below_step HB1.out (below_alloc (Below.refl w1.heap.size w1) (.cells #[.int .i64 x.f0, .slice A1 x.f1.length c1] 53))) hd2)
    clear hd2 hq0 hq1
    cases gx with
    | true =>
      go_wp2_with fail
      refine (awake_calls w2 (HTW.out.below HB2.out HTW.out.lt)).mono ?_
      rintro e w3 ⟨rfl, hb3⟩
      have HB3 := Aside0.mk (below_step HB0.out (below_step HB2.out hb3))
      clear hb3
      go_wp2_with fail
      go_ret
      exact ⟨rfl, HB3.out⟩
    | false =>
      have HSX : Aside0 (SmallA x) := ⟨(HX2.out rfl).2 x List.mem_cons_self⟩
      have hq0 := below_cell0 HB2.out HQ.out.1
      have hq1 := below_cell0 HB2.out HQ.out.2
      clear HX1 HX2 HB1
      go_wp2_with fail
      refine (PR.affluxlaw26_may.calls x.f0 (mayS x.f0) w2 (may_is x.f0)).mono ?_
      rintro e w3 ⟨rfl, hd3⟩
      have HB3 := Aside0.mk (below_drawn HB2.out hd3)
      clear hd3 HB2 hq0 hq1
      cases hm : mayS x.f0 with
      | false =>
        clear hm
        go_wp2_with fail
        refine (awake_calls w3 (HTW.out.below HB3.out HTW.out.lt)).mono ?_
        rintro e w4 ⟨rfl, hb4⟩
        have HB4 := Aside0.mk (below_step HB0.out (below_step HB3.out hb4))
        clear hb4
        go_wp2_with fail
        go_ret
        exact ⟨rfl, HB4.out⟩
      | true =>
        have HMN := Aside0.mk (mayS_int hm)
        clear hm
        go_wp2_with fail
        refine (awake_calls w3 (HTW.out.below HB3.out HTW.out.lt)).mono ?_
        rintro e w4 ⟨rfl, hb4⟩
        have HB4 := Aside0.mk (below_step HB3.out hb4)
        clear hb4 HB3
        obtain ⟨K, hK⟩ : ∃ K : Nat → Prop, K = fun k => 0 < keep.length ∧ ∃ ad, B = some ad ∧ k = ad.block := ⟨_, rfl⟩
        have HKI : Aside0 (∀ ad, B = some ad → 0 < keep.length → K ad.block) := ⟨fun ad h1 h2 => by rw [hK]; exact ⟨h2, ad, h1, rfl⟩⟩
        have HKL : Aside0 (∀ k, K k → k < w4.heap.size) := ⟨fun k hk => by
          rw [hK] at hk
          obtain ⟨h1, ad, h2, rfl⟩ := hk
          obtain ⟨ad', e', h3⟩ := Kd.at_int (Kd.C_below HB.out (below_step HB0.out HB4.out)) 0 (by decide) (by omega)
          rw [h2] at e'
          injection e' with e'
          subst e'
          have h4 := World.block_lt_of_cell? w4 _ h3
          have hbl : (ad.add (0 : Int).toNat).block = ad.block := by unfold Addr.add; split <;> rfl
          rw [hbl] at h4
          exact h4⟩
        clear hK
        go_wp2_with fail
        refine (new_S W0 w4 1048576 (by decide) (by decide) HB4.out K HKL.out).mono ?_
        rintro e w5 ⟨rfl, hr5, _⟩
        generalize w4.heap.size + 1 = g at hr5 ⊢
        generalize w4.heap.size = b at hr5 HKL
        have HR5 := Aside0.mk hr5
        clear hr5 HKL HB4
        go_wp2_with fail
        go_loopg [10] (l.length) (fun kq v10 w' => ∃ i : Nat, v10 = .int .i64 i ∧ Aside0 (i + kq = l.length) ∧ i ≤ l.length ∧ Aside0 (∃ s r, RunK W0 w' g b s K ∧ GoodR r ∧ Calm s 1048576 (filesR r) (12 * (i : Int))))
        case atStart => exact ⟨0, rfl, ⟨by omega⟩, Nat.zero_le _, ⟨_, none, HR5.out, (fun p h => by cases h), calm_new 1048576⟩⟩
        case round =>
          obtain ⟨i, rfl, HI, hi, HS⟩ := hrel
          obtain ⟨s, r, hrs, hgr, hcm⟩ := HS.out
          have HRS := Aside0.mk hrs
          have HGR := Aside0.mk hgr
          have HCM := Aside0.mk hcm
          clear HS hrs hgr hcm HR5
          by_cases hlt : i < l.length
          · have hlti : (i : Int) < (l.length : Int) := by omega
            cases gk with
            | zero => exact absurd HI.out (by omega)
            | succ k1 =>
              obtain ⟨ad, A3, c3, eA, hy0, hy1, hy2, hy3⟩ := at_T53 HA.out (i : Int) (by omega) (by omega)
              cases eA
              rw [rdT_at l i hlt] at hy0 hy1 hy2 hy3
              simp only [Int.toNat_natCast] at hy0 hy1
              have hsm := HSM.out.2 l[i] (List.getElem_mem hlt)
              generalize l[i] = y at hy0 hy1 hy2 hy3 hsm
              have HY2 := Aside0.mk hy2
              have HY3 := Aside0.mk hy3
              have HYS := Aside0.mk hsm
              have HIL := Aside0.mk (And.intro hi hlt)
              replace hy0 := below_cell0 (below_step HB0.out HRS.out.bel) hy0
              replace hy1 := below_cell0 (below_step HB0.out HRS.out.bel) hy1
              have my0 : (World.mk wr.heap wr.tape (wr.drawn + 1) wr.os wr.output).cell? (ad.add (i * 2)) = some (.int .i64 y.f0) := hy0
              have my1 : (World.mk wr.heap wr.tape (wr.drawn + 1) wr.os wr.output).cell? ⟨(ad.add (i * 2)).block, (ad.add (i * 2)).off + 1, none⟩ = some (.slice A3 y.f1.length c3) := hy1
              have hwi : IntKind.i64.wrap ((i : Int) + 1) = (i : Int) + 1 := by rw [IntKind.wrap_i64]; have := HSM.out.1; omega
              clear hy2 hy3 hsm hi hlt
              go_upto_region 7 with fail
              go_still_tail 11, (by kernel_rfl)
              change wpList _ _ _ _ _ wr.drew
              clear my0 my1 hy0 hy1
              have HRD := Aside0.mk (HRS.out.below (below_drew (Below.refl wr.heap.size wr)))
              generalize wr.drew = we at HRD ⊢
              go_wp2_with fail
              refine (Save_calls HRD.out (by have := HCM.out.uses; have := HIL.out; have := HSM.out.1; omega) HTW.out y.f0 A3 c3 y.f1 (Kd.C_below HY3.out (below_step HB0.out HRD.out.bel)) HY2.out (by have := HYS.out.1; omega) (by have := small_sum HYS.out; omega)).mono ?_
              rintro e w6 ⟨rfl, hr6, _⟩
              have HST := Aside0.mk (save_step HCM.out HGR.out y.f0 (catS y.f1) (small_cat HYS.out))
              have HR6 := Aside0.mk hr6
              clear hr6
              generalize saveD s y.f0 (catS y.f1) = sv at HST HR6 ⊢
              go_wp2_with fail
              go_roundg k1
              case measure => have := HI.out; omega
              case rel =>
                obtain ⟨r', h1, h2⟩ := HST.out
                exact ⟨i + 1, by go_num, ⟨by have := HI.out; omega⟩, by have := HIL.out; omega, ⟨sv.1, r', HR6.out, h1, h2.more (by omega)⟩⟩
          · have hge : i = l.length := by omega
            subst hge
            clear hlt HI hi
            go_wp2_with fail
            refine (Load_calls HRS.out (HTW.out.below HRS.out.bel HTW.out.lt)).mono ?_
            rintro e w6 ⟨rfl, hb6⟩
            rw [load_told HCM.out.off (by rw [HCM.out.files]; exact snapR_files r) HGR.out]
            have HR6 := Aside0.mk (HRS.out.below hb6)
            clear hb6 HRS
            go_wp2_with fail
            refine (arm_S HR6.out (q : Int) (by have := HQL.out; omega)).mono ?_
            rintro e w7 ⟨rfl, hr7, _⟩
            have HR7 := Aside0.mk hr7
            clear hr7 HR6
            have hq0 := below_cell0 HR7.out.bel HQ.out.1
            have hq1 := below_cell0 HR7.out.bel HQ.out.2
            go_wp2_with fail
            clear hq0 hq1
            refine (Save_calls HR7.out (by show s.uses < _; have := HCM.out.uses; have := HSM.out.1; omega) HTW.out x.f0 A1 c1 x.f1 (Kd.C_below HX.out (below_step HB0.out HR7.out.bel)) HC1.out (by have := HSX.out.1; omega) (by have := small_sum HSX.out; omega)).mono ?_
            rintro e w8 ⟨rfl, hr8, _⟩
            have hcl := crash_law (HCM.out.more (by have := HSM.out.1; omega)) HGR.out x.f0.toNat HMN.out.2 (catS x.f1) (small_cat HSX.out) (q : Int) keep
            rw [HMN.out.1] at hcl
            obtain ⟨r2, hsemi, hor, hres⟩ := hcl
            have HSE := Aside0.mk hsemi
            have HOR := Aside0.mk hor
            have HRES := Aside0.mk hres
            have HR8 := Aside0.mk hr8
            clear hr8 hsemi hor hres HR7
            generalize saveD (armD s (q : Int)) x.f0 (catS x.f1) = sv at HSE HRES HR8 ⊢
            obtain ⟨s3, fv⟩ := sv
            dsimp only at HSE HRES HR8 ⊢
            go_wp2_with fail
            refine (crash_S HR8.out B cB keep (Kd.C_below HB.out (below_step HB0.out HR8.out.bel)) HKI.out).mono ?_
            rintro e w9 ⟨rfl, hr9, _⟩
            have HR9 := Aside0.mk hr9
            clear hr9 HR8
            generalize crashD s3 keep = s4 at HSE HR9
            go_wp2_with fail
            refine (Load_calls HR9.out (HTW.out.below HR9.out.bel HTW.out.lt)).mono ?_
            rintro e w10 ⟨rfl, hb10⟩
            rw [semi_load HSE.out]
            have HR10 := Aside0.mk (HR9.out.below hb10)
            clear hb10 HR9
            have HTR : Aside0 (r2 = r → toldR r2 = toldR r) := ⟨fun h => by rw [h]⟩
            have HTN : Aside0 (r2 = some (x.f0.toNat, catS x.f1) → toldR r2 = (x.f0, catS x.f1, 0)) := ⟨fun h => by
              rw [h]
              show (((x.f0.toNat : Nat) : Int), catS x.f1, (0 : Int)) = _
              rw [HMN.out.1]⟩
            have HL2 := Aside0.mk (semi_load HSE.out)
            generalize toldR r = tr at HRES HTR ⊢
            obtain ⟨n0, s0, e0⟩ := tr
            obtain ⟨tr2, htr2⟩ : ∃ tr2, tr2 = toldR r2 := ⟨_, rfl⟩
            have HT2 := Aside0.mk htr2
            rw [← htr2] at HTR HTN HL2 ⊢
            clear htr2
            obtain ⟨m, t, ge⟩ := tr2
            dsimp only at HRES HTR HTN HL2 HT2 ⊢
            go_upto_region 13 with fail
            go_cut [18] (fun s18 wx => ∃ wb : Bool, s18 = .bool wb ∧ wx = w10 ∧ Aside0 (r2 = r → wb = true))
            case first =>
              by_cases q1 : m = n0
              · have q1a : (m == n0) = true := by simp [q1]
                have q1b : decide (m = n0) = true := decide_eq_true q1
                have Q1 := Aside0.mk q1
                clear q1
                by_cases q2 : t = s0
                · have q2a : (t.toList == s0.toList) = true := by rw [q2]; simp
                  have Q2 := Aside0.mk q2
                  clear q2
                  by_cases q3 : ge = e0
                  · have q3a : (ge == e0) = true := by simp [q3]
                    have q3b : decide (ge = e0) = true := decide_eq_true q3
                    clear q3
                    go_wp2_with fail
                    go_meet
                    exact ⟨_, rfl, rfl, ⟨fun _ => rfl⟩⟩
                  · have q3a : (ge == e0) = false := beq_eq_false_iff_ne.2 q3
                    have q3b : decide (ge = e0) = false := decide_eq_false q3
                    have Q3 := Aside0.mk q3
                    clear q3
                    go_wp2_with fail
                    go_meet
                    exact ⟨_, rfl, rfl, ⟨fun h => absurd (congrArg (fun p => p.2.2) (HTR.out h)) Q3.out⟩⟩
                · have q2a : (t.toList == s0.toList) = false := str_ne q2
                  have Q2 := Aside0.mk q2
                  clear q2
                  go_wp2_with fail
                  go_meet
                  exact ⟨_, rfl, rfl, ⟨fun h => absurd (congrArg (fun p => p.2.1) (HTR.out h)) Q2.out⟩⟩
              · have q1a : (m == n0) = false := beq_eq_false_iff_ne.2 q1
                have q1b : decide (m = n0) = false := decide_eq_false q1
                have Q1 := Aside0.mk q1
                clear q1
                go_wp2_with fail
                go_meet
                exact ⟨_, rfl, rfl, ⟨fun h => absurd (congrArg (fun p => p.1) (HTR.out h)) Q1.out⟩⟩
            case rest =>
              obtain ⟨wb, rfl, hwc, HWB⟩ := hcut
              subst hwc
              go_upto_region 14 with fail
              go_cut [19] (fun s19 wx => ∃ ib : Bool, s19 = .bool ib ∧ Aside0 (r2 = some (x.f0.toNat, catS x.f1) → ib = true) ∧ Aside0 (RunK W0 wx g b s4 K))
              case first =>
                have hq0 := below_cell0 HR10.out.bel HQ.out.1
                have hq1 := below_cell0 HR10.out.bel HQ.out.2
                by_cases q1 : m = x.f0
                · have q1a : (m == x.f0) = true := by simp [q1]
                  have q1b : decide (m = x.f0) = true := decide_eq_true q1
                  clear q1
                  go_wp2_with fail
                  refine (PR.affluxlaw26_join.calls (x.f1.length + 1) A1 c1 x.f1 (catS x.f1) _ (Kd.C_below HX.out (below_step HB0.out HR10.out.bel)) HC1.out (join26_at x.f1 _ (Nat.le_refl _) (by have := HSX.out.1; omega) (by have := small_sum HSX.out; omega))).mono ?_
                  rintro e w11 ⟨rfl, hd11⟩
                  have HR11 := Aside0.mk (HR10.out.below (below_drawn (Below.refl _ _) hd11))
                  clear hd11 hq0 hq1
                  by_cases q2 : t = catS x.f1
                  · have q2a : (t.toList == (catS x.f1).toList) = true := by rw [q2]; simp
                    clear q2
                    by_cases q3 : ge = 0
                    · have q3a : (ge == 0) = true := by simp [q3]
                      have q3b : decide (ge = 0) = true := decide_eq_true q3
                      clear q3
                      go_wp2_with fail
                      go_meet
                      exact ⟨_, rfl, ⟨fun _ => rfl⟩, HR11⟩
                    · have q3a : (ge == 0) = false := beq_eq_false_iff_ne.2 q3
                      have q3b : decide (ge = 0) = false := decide_eq_false q3
                      have Q3 := Aside0.mk q3
                      clear q3
                      go_wp2_with fail
                      go_meet
                      exact ⟨_, rfl, ⟨fun h => absurd (congrArg (fun p => p.2.2) (HTN.out h)) Q3.out⟩, HR11⟩
                  · have q2a : (t.toList == (catS x.f1).toList) = false := str_ne q2
                    have Q2 := Aside0.mk q2
                    clear q2
                    go_wp2_with fail
                    go_meet
                    exact ⟨_, rfl, ⟨fun h => absurd (congrArg (fun p => p.2.1) (HTN.out h)) Q2.out⟩, HR11⟩
                · have q1a : (m == x.f0) = false := beq_eq_false_iff_ne.2 q1
                  have q1b : decide (m = x.f0) = false := decide_eq_false q1
                  have Q1 := Aside0.mk q1
                  clear q1
                  go_wp2_with fail
                  go_meet
                  exact ⟨_, rfl, ⟨fun h => absurd (congrArg (fun p => p.1) (HTN.out h)) Q1.out⟩, HR10⟩
              case rest =>
                obtain ⟨ib, rfl, HIB, HR11⟩ := hcut
                clear HR10
                have HWI : Aside0 (wb = true ∨ ib = true) := ⟨HOR.out.elim (fun h => .inl (HWB.out h)) (fun h => .inr (HIB.out h))⟩
                go_upto_region 15 with fail
                go_cut [153] (fun s153 wx => s153 = .bool false ∧ Aside0 (RunK W0 wx g b s4 K))
                case first =>
                  have hq0 := below_cell0 HR11.out.bel HQ.out.1
                  rcases HRES.out with ⟨hf, hi⟩ | hf | ⟨hf, hn⟩
                  · subst hf
                    have hib := HIB.out hi
                    subst hib
                    clear hi
                    cases wb with
                    | true =>
                      go_wp2_with fail
                      go_meet
                      exact ⟨rfl, HR11⟩
                    | false =>
                      go_wp2_with fail
                      go_meet
                      exact ⟨rfl, HR11⟩
                  · subst hf
                    cases wb with
                    | true =>
                      go_wp2_with fail
                      go_meet
                      exact ⟨rfl, HR11⟩
                    | false =>
                      cases ib with
                      | true =>
                        go_wp2_with fail
                        go_meet
                        exact ⟨rfl, HR11⟩
                      | false => exact absurd HWI.out (by decide)
                  · subst hf
                    subst hn
                    cases wb with
                    | true =>
                      go_wp2_with fail
                      go_meet
                      exact ⟨rfl, HR11⟩
                    | false =>
                      cases ib with
                      | true =>
                        go_wp2_with fail
                        go_meet
                        exact ⟨rfl, HR11⟩
                      | false => exact absurd HWI.out (by decide)
                case rest =>
                  obtain ⟨rfl, HR12⟩ := hcut
                  clear HR11 HWI HIB HWB HRES HTR HTN HOR
                  have hag : (aAgain.toList == [97, 103, 97, 105, 110]) = true := by rw [ByteArray.toList_eq]; decide
                  cases r2 with
                  | none =>
                    obtain ⟨rfl, h2⟩ := Prod.mk.inj HT2.out
                    obtain ⟨rfl, rfl⟩ := Prod.mk.inj h2
                    have HSV : Aside0 ((saveD s4 0 aAgain).2 = 0 ∧ loadD (saveD s4 0 aAgain).1 = (0, aAgain, 0)) := ⟨by
                      obtain ⟨fs, hc⟩ := HSE.out.calm
                      exact semi_save hc (by rw [← hc.files]; exact HSE.out.fit) (k := 0) (d := aAgain) (by decide) (by decide) (by rw [HL2.out]; decide)⟩
                    clear h2
                    go_wp2_with fail
                    have h9 := Save_calls (HR12.out.below (below_alloc (Below.refl _ _) (.cells #[.string aAgain] 9))) (by have := HSE.out.uses; omega) HTW.out 0 (some ⟨wc.heap.size, 0, none⟩) 1 [aAgain] (strC_blk (blk_new wc _) (by simp)) (by simp) (by simp) (by decide)
                    rw [catS_one] at h9
                    refine h9.mono ?_
                    rintro e w13 ⟨rfl, hr13, _⟩
                    rw [HSV.out.1]
                    have HR13 := Aside0.mk hr13
                    clear hr13 h9
                    go_wp2_with fail
                    refine (Load_calls HR13.out (HTW.out.below HR13.out.bel HTW.out.lt)).mono ?_
                    rintro e w14 ⟨rfl, hb14⟩
                    rw [HSV.out.2]
                    have HB14 := Aside0.mk (below_step HB0.out (below_step HR13.out.bel hb14))
                    clear hb14
                    go_wp2_with fail
                    go_ret
                    exact ⟨rfl, HB14.out⟩
                  | some p =>
                    obtain ⟨rfl, h2⟩ := Prod.mk.inj HT2.out
                    obtain ⟨rfl, rfl⟩ := Prod.mk.inj h2
                    obtain ⟨s5, sx, hs5, hc5⟩ := semi_sweep HSE.out
                    have HS5 := Aside0.mk hs5
                    have HC5 := Aside0.mk hc5
                    have hp := HSE.out.good p rfl
                    have hf5 := fit_files HSE.out.good
                    have HF5 : Aside0 (Fit s5.files 5 24200 ∧ loadD s5 = ((p.1 : Int), p.2, 0)) := ⟨by rw [hc5.files]; exact hf5.more (by omega) (by omega), load_clean hc5.off hc5.files hp.1 (by have := hp.2; omega)⟩
                    clear hs5 hc5 hp hf5 h2
                    go_wp2_with fail
                    refine (Sweep_calls HR12.out (by have := HSE.out.uses; omega) HTW.out).mono ?_
                    rintro e w13 ⟨rfl, hr13, _⟩
                    rw [HS5.out] at hr13 ⊢
                    have HR13 := Aside0.mk hr13
                    clear hr13
                    by_cases h0 : p.1 = 0
                    · have h0i : ((p.1 : Nat) : Int) = 0 := by omega
                      have h0a : (((p.1 : Nat) : Int) == 0) = true := by simp [h0]
                      have HSV : Aside0 ((saveD s5 1 aAgain).2 = 0 ∧ loadD (saveD s5 1 aAgain).1 = (1, aAgain, 0)) := ⟨semi_save HC5.out (by rw [← HC5.out.files]; exact HF5.out.1) (k := 1) (d := aAgain) (by decide) (by decide) (by rw [HF5.out.2]; intro h; have := h.2; dsimp only at this; omega)⟩
                      clear h0
                      go_wp2_with fail
                      have h9 := Save_calls (HR13.out.below (below_alloc (Below.refl _ _) (.cells #[.string aAgain] 9))) (by have := HC5.out.uses; omega) HTW.out 1 (some ⟨w13.heap.size, 0, none⟩) 1 [aAgain] (strC_blk (blk_new w13 _) (by simp)) (by simp) (by simp) (by decide)
                      rw [catS_one] at h9
                      refine h9.mono ?_
                      rintro e w14 ⟨rfl, hr14, _⟩
                      rw [HSV.out.1]
                      have HR14 := Aside0.mk hr14
                      clear hr14 h9
                      go_wp2_with fail
                      refine (Load_calls HR14.out (HTW.out.below HR14.out.bel HTW.out.lt)).mono ?_
                      rintro e w15 ⟨rfl, hb15⟩
                      rw [HSV.out.2]
                      have HB15 := Aside0.mk (below_step HB0.out (below_step HR14.out.bel hb15))
                      clear hb15
                      go_wp2_with fail
                      go_ret
                      exact ⟨rfl, HB15.out⟩
                    · have h0i : ¬ (((p.1 : Nat) : Int) = 0) := by omega
                      have h0a : (((p.1 : Nat) : Int) == 0) = false := beq_eq_false_iff_ne.2 h0i
                      have h0b : decide (((p.1 : Nat) : Int) = 0) = false := decide_eq_false h0i
                      have HSV : Aside0 ((saveD s5 0 aAgain).2 = 0 ∧ loadD (saveD s5 0 aAgain).1 = (0, aAgain, 0)) := ⟨semi_save HC5.out (by rw [← HC5.out.files]; exact HF5.out.1) (k := 0) (d := aAgain) (by decide) (by decide) (by rw [HF5.out.2]; intro h; exact h0i h.2)⟩
                      clear h0
                      go_wp2_with fail
                      have h9 := Save_calls (HR13.out.below (below_alloc (Below.refl _ _) (.cells #[.string aAgain] 9))) (by have := HC5.out.uses; omega) HTW.out 0 (some ⟨w13.heap.size, 0, none⟩) 1 [aAgain] (strC_blk (blk_new w13 _) (by simp)) (by simp) (by simp) (by decide)
                      rw [catS_one] at h9
                      refine h9.mono ?_
                      rintro e w14 ⟨rfl, hr14, _⟩
                      rw [HSV.out.1]
                      have HR14 := Aside0.mk hr14
                      clear hr14 h9
                      go_wp2_with fail
                      refine (Load_calls HR14.out (HTW.out.below HR14.out.bel HTW.out.lt)).mono ?_
                      rintro e w15 ⟨rfl, hb15⟩
                      rw [HSV.out.2]
                      have HB15 := Aside0.mk (below_step HB0.out (below_step HR14.out.bel hb15))
                      clear hb15
                      go_wp2_with fail
                      go_ret
                      exact ⟨rfl, HB15.out⟩
end Go.Proofs.YtcbbdkennmopdaaGreatDoor.PK
