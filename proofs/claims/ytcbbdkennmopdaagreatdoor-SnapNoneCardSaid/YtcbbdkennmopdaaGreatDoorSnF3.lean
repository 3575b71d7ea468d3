/- Texts of this claim, joined: Opens, Row, SnSweep, SnNone. -/
import Derived.Test.YtcbbdkennmopdaaGreatDoorWWords
import Derived.Test.YtcbbdkennmopdaaGreatDoorWLast
import Derived.Deep.Slices
import Derived.ProofKit
import Derived.Carry
import Derived.KernelRfl
import Derived.Test.YtcbbdkennmopdaaGreatDoorRows
import Derived.Test.YtcbbdkennmopdaaGreatDoorSumWalk
import Derived.LaidMore
import Derived.LaidHandle
import Derived.MakeChecks
import Derived.OpenShut
import Derived.Stop.Joined
import Derived.Test.YtcbbdkennmopdaaGreatDoorSnB2
set_option linter.unusedSimpArgs false
set_option linter.unusedVariables false
/- What an argument reads as, opened by its type: whole numbers, truths, texts, slices, structs, as deep as the type goes. -/
namespace Go.Proofs.YtcbbdkennmopdaaGreatDoor
open Go.RowKit Go.Proofs.YtcbbdkennmopdaaGreatDoorW.PrintWords
namespace Opens
/-- Cells of type t that can be read as data hold a value of kind d, and it is good. -/
structure Opn (P : Program) (t : TypeId) {α : Type} (d : Kd α) (good : α → Prop) : Prop where
  size : P.cellsOf t = d.sz
  op : ∀ {H : Type} (enc : TypeId × Value → H) (W : World) (fuel : Nat) (cs : List Value) (y : DataW H × List MemPlace), DataW.trod enc P W 0 (fun _ => true) true fuel t cs = some y → ∃ x, d.K W x cs ∧ good x
theorem Opn.weaken {P : Program} {t : TypeId} {α : Type} {d : Kd α} {good good' : α → Prop} (h : Opn P t d good) (hg : ∀ x, good x → good' x) : Opn P t d good' :=
  ⟨h.size, fun enc W fuel cs y hy => let ⟨x, hk, hx⟩ := h.op enc W fuel cs y hy; ⟨x, hk, hg x hx⟩⟩
theorem opn_int {P : Program} {t : TypeId} {k : IntKind} (ht : P.underlying t = some (.int k)) (hc : P.cellsOf t = 1) : Opn P t (Kd.int k) (fun n => (Lit.int k n).wf = true) := by
  refine ⟨hc, fun enc W fuel cs y h => ?_⟩
  cases fuel with
  | zero => simp [DataW.trod] at h
  | succ n =>
    unfold DataW.trod at h
    rw [ht] at h
    split at h <;> simp_all
    obtain ⟨⟨rfl, hw⟩, _⟩ := h
    exact ⟨_, rfl, hw⟩
theorem opn_bool {P : Program} {t : TypeId} (ht : P.underlying t = some .bool) (hc : P.cellsOf t = 1) : Opn P t Kd.bool (fun _ => True) := by
  refine ⟨hc, fun enc W fuel cs y h => ?_⟩
  cases fuel with
  | zero => simp [DataW.trod] at h
  | succ n =>
    unfold DataW.trod at h
    rw [ht] at h
    split at h <;> first | exact ⟨_, rfl, trivial⟩ | simp_all
theorem opn_string {P : Program} {t : TypeId} (ht : P.underlying t = some .string) (hc : P.cellsOf t = 1) : Opn P t Kd.string (fun s => s.size ≤ maxLen) := by
  refine ⟨hc, fun enc W fuel cs y h => ?_⟩
  cases fuel with
  | zero => simp [DataW.trod] at h
  | succ n =>
    unfold DataW.trod at h
    rw [ht] at h
    split at h <;> simp_all
    exact ⟨_, rfl, h.1⟩
theorem opn_slice {P : Program} {t e : TypeId} {α : Type} {d : Kd α} {good : α → Prop} (ht : P.underlying t = some (.slice e)) (hc : P.cellsOf t = 1) (h : Opn P e d good) : Opn P t (Kd.slice e d) (fun xs => xs.length ≤ maxLen ∧ ∀ x ∈ xs, good x) := by
  refine ⟨hc, fun enc W fuel cs y hy => ?_⟩
  rcases Go.Deep.open_slice ht hy with ⟨rfl, _⟩ | ⟨a, len, cap, m, n, D, Pl, rfl, _, hl, hcap, hm, _, hel⟩
  · exact ⟨[], ⟨none, 0, rfl, Nat.le_refl _, rfl, Nat.zero_le _, fun h0 => absurd h0 (Nat.lt_irrefl _)⟩, Nat.zero_le _, by simp⟩
  have hmm : m = cap := by rw [hm]; rfl
  subst hmm
  have hx : ∀ i, i < len → ∃ x, (∃ cs', W.cells? 0 (a.add (i * P.cellsOf e)) (P.cellsOf e) = some cs' ∧ d.K W x cs') ∧ good x := fun i hi => by
    obtain ⟨cs', h1, h2⟩ := hel i (by omega)
    obtain ⟨x, hk, hg⟩ := h.op enc W n cs' _ h2
    exact ⟨x, ⟨cs', h1, hk⟩, hg⟩
  have hall : ∀ k, k ≤ len → ∃ xs : List α, xs.length = k ∧ (∀ (j : Nat) p, xs[j]? = some p → ∃ cs', W.cells? 0 (a.add (j * P.cellsOf e)) (P.cellsOf e) = some cs' ∧ d.K W p cs') ∧ ∀ x ∈ xs, good x := by
    intro k
    induction k with
    | zero => intro _; exact ⟨[], rfl, by simp, by simp⟩
    | succ k ih =>
      intro hk
      obtain ⟨xs, hlen, hcells, hgood⟩ := ih (by omega)
      obtain ⟨x, hxk, hxg⟩ := hx k (by omega)
      refine ⟨xs ++ [x], by simp [hlen], fun j p hj => ?_, fun z hz => ?_⟩
      · by_cases hjk : j < xs.length
        · rw [List.getElem?_append_left hjk] at hj
          exact hcells j p hj
        · have hje : j = k := by
            have := (List.getElem?_eq_some_iff.1 hj).1
            simp at this; omega
          subst hje
          rw [List.getElem?_append_right (by omega), hlen, Nat.sub_self] at hj
          obtain rfl : x = p := by simpa using hj
          exact hxk
      · rcases List.mem_append.1 hz with hz | hz
        · exact hgood z hz
        · rw [List.mem_singleton.1 hz]; exact hxg
  obtain ⟨xs, hlen, hcells, hgood⟩ := hall len (Nat.le_refl _)
  subst hlen
  refine ⟨xs, ⟨some a, m, rfl, hl, rfl, ?_, fun h0 => ⟨a, rfl, fun j p hj => ?_⟩⟩, by omega, hgood⟩
  · unfold maxLen at hcap; omega
  · obtain ⟨cs', h1, hk⟩ := hcells j p hj
    rw [h.size] at h1
    obtain ⟨_, hlen, hget⟩ := World.cells?_some h1
    refine ⟨cs', d.K_len hk, hk, fun i u hu => ?_⟩
    have hi : i < d.sz := by rw [← hlen]; exact (List.getElem?_eq_some_iff.1 hu).1
    have := hget i hi
    rw [hu, add_add] at this
    exact this
/-- Fields, the first of which begins at cell o. -/
structure OpnF (P : Program) (fs : List Field) (o : Nat) {α : Type} (d : Kd α) (good : α → Prop) : Prop where
  op : ∀ {H : Type} (enc : TypeId × Value → H) (W : World) (fuel : Nat) (cs : List Value) (ys : List (DataW H × List MemPlace)), cs.length = o + d.sz → (fs.mapM fun f => DataW.trod enc P W 0 (fun _ => true) true fuel f.type ((cs.drop f.offset).take (P.cellsOf f.type))) = some ys → ∃ x, d.K W x (cs.drop o) ∧ good x
theorem opnF_one {P : Program} {f : Field} {o : Nat} {α : Type} {d : Kd α} {good : α → Prop} (ho : f.offset = o) (h : Opn P f.type d good) : OpnF P [f] o d good := by
  refine ⟨fun enc W fuel cs ys hl hy => ?_⟩
  simp only [List.mapM_cons, List.mapM_nil, Option.pure_def, Option.bind_eq_bind, Option.bind_eq_some_iff] at hy
  obtain ⟨y, h1, _⟩ := hy
  obtain ⟨x, hk, hg⟩ := h.op enc W fuel _ _ h1
  rw [ho, h.size, List.take_of_length_le (by simp; omega)] at hk
  exact ⟨x, hk, hg⟩
theorem opnF_cons {P : Program} {f : Field} {fs : List Field} {o : Nat} {α β : Type} {a : Kd α} {b : Kd β} {ga : α → Prop} {gb : β → Prop} (ho : f.offset = o) (h : Opn P f.type a ga) (hs : OpnF P fs (o + a.sz) b gb) : OpnF P (f :: fs) o (Kd.pair a b) (fun x => ga x.1 ∧ gb x.2) := by
  refine ⟨fun enc W fuel cs ys hl hy => ?_⟩
  simp only [List.mapM_cons, Option.pure_def, Option.bind_eq_bind, Option.bind_eq_some_iff] at hy
  obtain ⟨y, h1, ys', h2, _⟩ := hy
  obtain ⟨x, hk, hg⟩ := h.op enc W fuel _ _ h1
  have hlz : cs.length = o + a.sz + b.sz := by rw [hl]; exact (Nat.add_assoc _ _ _).symm
  obtain ⟨z, hkz, hgz⟩ := hs.op enc W fuel cs ys' hlz h2
  rw [ho, h.size] at hk
  refine ⟨(x, z), ⟨_, _, ?_, hk, hkz⟩, hg, hgz⟩
  rw [← List.drop_drop, List.take_append_drop]
theorem opn_struct {P : Program} {t : TypeId} {fs : Array Field} {α : Type} {d : Kd α} {good : α → Prop} (ht : P.underlying t = some (.struct fs)) (hc : P.cellsOf t = d.sz) (h : OpnF P fs.toList 0 d good) : Opn P t d good := by
  refine ⟨hc, fun enc W fuel cs y hy => ?_⟩
  cases fuel with
  | zero => simp [DataW.trod] at hy
  | succ n =>
    unfold DataW.trod at hy
    rw [ht] at hy
    simp only [] at hy
    split at hy
    · rename_i hl
      obtain ⟨ys, hys, _⟩ := Option.map_eq_some_iff.1 hy
      have := h.op enc W n cs ys (by rw [hl, hc, Nat.zero_add]) hys
      simpa using this
    · cases hy
theorem opn_iso {P : Program} {t : TypeId} {α β : Type} {d : Kd α} {good : α → Prop} (h : Opn P t d good) (f : β → α) (g : α → β) (hfg : ∀ x, f (g x) = x) : Opn P t (Kd.iso d f) (fun y => good (f y)) := by
  refine ⟨h.size, fun enc W fuel cs y hy => ?_⟩
  obtain ⟨x, hk, hg⟩ := h.op enc W fuel cs y hy
  exact ⟨g x, by show d.K W (f (g x)) cs; rw [hfg]; exact hk, by rw [hfg]; exact hg⟩
/-- An argument, opened. -/
theorem Opn.arg {P : Program} {t : TypeId} {α : Type} {d : Kd α} {good : α → Prop} (h : Opn P t d good) {H : Type} {enc : TypeId × Value → H} {W : World} {v : Value} {y : DataW H} {ps : List MemPlace} (hv : DataW.Trod enc P W 0 (fun _ => true) true t v y ps) : ∃ x, d.K W x v.cells.toList ∧ good x := by
  obtain ⟨fuel, hf⟩ := hv
  exact h.op enc W fuel _ _ hf
/-- A slice that came in. -/
theorem slice_arg {P : Program} {t e : TypeId} {α : Type} {d : Kd α} {good : List α → Prop} (ht : P.underlying t = some (.slice e)) (h : Opn P t (Kd.slice e d) good) {H : Type} {enc : TypeId × Value → H} {W : World} {base : Nat} {v : Value} {y : DataW H} {ps : List MemPlace} (hv : Value.okWide P W .any base t v) (hd : DataW.Trod enc P W 0 (fun _ => true) true t v y ps) : ∃ A c xs, v = .slice A xs.length c ∧ xs.length ≤ c ∧ Kd.C d W A xs.length xs ∧ good xs := by
  obtain ⟨A, len, cap, rfl⟩ := Go.WideShapes.okWide_slice ht hv
  obtain ⟨xs, ⟨A', c', hcs, hl, hC⟩, hg⟩ := h.arg hd
  simp only [Value.cells, List.cons.injEq, Value.slice.injEq, and_true] at hcs
  obtain ⟨rfl, rfl, rfl⟩ := hcs
  exact ⟨A, cap, xs, rfl, hl, hC, hg⟩
/-- A struct that came in by value. -/
theorem struct_arg {P : Program} {t : TypeId} {fs : Array Field} {α : Type} {d : Kd α} {good : α → Prop} (ht : P.underlying t = some (.struct fs)) (h : Opn P t d good) {H : Type} {enc : TypeId × Value → H} {W : World} {base : Nat} {v : Value} {y : DataW H} {ps : List MemPlace} (hv : Value.okWide P W .any base t v) (hd : DataW.Trod enc P W 0 (fun _ => true) true t v y ps) : ∃ cs x, v = .agg cs ∧ d.K W x cs.toList ∧ good x := by
  obtain ⟨cs, rfl, _⟩ := Go.WideShapes.okWide_struct ht hv
  obtain ⟨x, hk, hg⟩ := h.arg hd
  exact ⟨cs, x, rfl, hk, hg⟩
/-- What nothing has touched reads as it did: all arguments at once. -/
theorem trodAll_below {H : Type} {enc : TypeId × Value → H} {P : Program} (hl : laidOutB P = true) {W W' : World} (hb : Below W.heap.size W W') : ∀ (ts : List TypeId) (vs : List Value) (ds : List (DataW H)) (ps : List MemPlace), (∀ t ∈ ts, P.readableRec t = true ∧ t < P.types.size) →
    DataW.TrodAll enc P W 0 (fun _ => true) true ts vs ds ps → (∀ x ∈ ps, x.block < W.heap.size) → DataW.TrodAll enc P W' 0 (fun b => decide (b < W.heap.size)) true ts vs ds ps
  | [], [], [], _, _, h, _ => h
  | t :: ts, v :: vs, d :: ds, ps, ht, h, hlt => by
    obtain ⟨p, q, h1, h2, rfl⟩ := h
    refine ⟨p, q, Below.trod hl (ht t List.mem_cons_self).1 (ht t List.mem_cons_self).2 h1 hb (fun x hx => hlt x (List.mem_append_left _ hx)), ?_, rfl⟩
    exact trodAll_below hl hb ts vs ds q (fun t' h' => ht t' (List.mem_cons_of_mem _ h')) h2 (fun x hx => hlt x (List.mem_append_right _ hx))
theorem trodAll_lt {H : Type} {enc : TypeId × Value → H} {P : Program} {W : World} : ∀ (ts : List TypeId) (vs : List Value) (ds : List (DataW H)) (ps : List MemPlace), DataW.TrodAll enc P W 0 (fun _ => true) true ts vs ds ps → ∀ x ∈ ps, x.block < W.heap.size
  | [], [], [], _, h, x, hx => by rw [show _ = [] from h] at hx; cases hx
  | t :: ts, v :: vs, d :: ds, ps, h, x, hx => by
    obtain ⟨p, q, ⟨fuel, h1⟩, h2, rfl⟩ := h
    rcases List.mem_append.1 hx with hx | hx
    · exact DataW.trod_lt fuel _ _ _ h1 x hx
    · exact trodAll_lt ts vs ds q h2 x hx
end Opens
end Go.Proofs.YtcbbdkennmopdaaGreatDoor
/- From a law's walk to its row: whatever the arguments' types. -/
namespace Go.Proofs.YtcbbdkennmopdaaGreatDoor
open Go.ChangeShapes Go.WideShapes Go.ChangeAt Go.RowKit
theorem ownKnobNone : ownKnob Tryz.prog.godebug = none := by kernel_rfl
theorem laidOutProg : laidOutB Tryz.prog = true := by kernel_rfl
/-- What a law is answered: true, the arguments as they were. -/
theorem post_true {H : Type} {enc : TypeId × Value → H} {fn : Func} {spec : ChangeSpec} {W W' : World} {args : Array Value} {ds gs : List (DataW H)} {before : List MemPlace} (tb : TypeId)
    (hvars : spec.vars = []) (hres : fn.resultTypes = #[tb]) (htb : Tryz.prog.underlying tb = some .bool)
    (hfn : spec.fn H (ds ++ gs) = { results := [.lit (.bool true)], args := ds })
    (hread : (fn.params.toList.all fun t => Tryz.prog.readableRec t && decide (t < Tryz.prog.types.size)) = true)
    (hW : DataW.Whole enc Tryz.prog fn.params.toList spec.vars false W args.toList ds gs before) (hb : Below W.heap.size W W') :
    spec.post enc Tryz.prog fn false true false false W args (.bool true) W' := by
  have hW' := hW
  obtain ⟨p, q, hA, hV, _, _, _⟩ := hW
  rw [hvars] at hV
  obtain ⟨rfl, rfl⟩ := trodVars_none hV
  have hread' : ∀ t ∈ fn.params.toList, Tryz.prog.readableRec t = true ∧ t < Tryz.prog.types.size := fun t ht => by
    have := List.all_eq_true.1 hread t ht
    simpa using this
  refine ⟨ds, [], before, [], p, [], hW', ?_, ?_, ?_, hb.frame _, fun h => by cases h⟩
  · rw [hfn, hres]
    exact trodAll_mk1 (shut_bool htb _)
  · rw [hfn]
    exact Opens.trodAll_below laidOutProg hb _ _ _ _ hread' hA (Opens.trodAll_lt _ _ _ _ hA)
  · rw [hfn, hvars]; rfl
/-- The listed table, where the program keeps it. -/
theorem tab_of_laid {W : World} (h : laidMetH Tryz.prog [("afflux/seal.nibbles", Rows.laid_afflux_seal_nibbles)] W) : SumW.Tab W := by
  rw [MakeChecks.laidMetH_plain _ _ _ (by kernel_rfl)] at h
  obtain ⟨ps, ⟨g0, t0, cs0, f0, p0, q0, hg0, ht0, hv0, hd0, _, _⟩, _, _⟩ := h
  obtain rfl := Option.some.inj ((show Tryz.prog.globalNamed "afflux/seal.nibbles" = some 0 by kernel_rfl).symm.trans hg0)
  obtain rfl := Option.some.inj ((show (Tryz.prog.globals[0]?).map (·.type) = some 219 by kernel_rfl).symm.trans ht0)
  obtain ⟨xs, m1, rfl, hx1, hlen, hn3, hel⟩ := DataW.trod_array Tryz.underlying219 hd0
  have cE : Tryz.prog.cellsOf 163 = 1 := by kernel_rfl
  have cA : Tryz.prog.cellsOf 219 = 16 := by kernel_rfl
  intro i hi
  have hcell := World.var?_cell hg0 hv0 i
  rw [hcell]
  have hx := hel i hi
  rw [cE, Nat.mul_one] at hx
  rw [cA] at hlen
  have hxi : i < xs.length := by omega
  rw [List.getElem?_eq_getElem hxi] at hx
  obtain ⟨n, e1, e2, _⟩ := DataW.trod_int Tryz.underlying163 hx
  have hci : i < cs0.size := by rw [← Array.length_toList, hlen]; exact hi
  have hgi : cs0[i]? = some (.int .u64 n) := by
    have h1 : (List.drop i cs0.toList).take 1 = [cs0[i]] := by
      rw [List.drop_eq_getElem_cons (by simpa using hci)]; rfl
    rw [h1] at e1
    rw [Array.getElem?_eq_getElem hci]
    exact congrArg some (List.cons.inj e1).1
  rw [hgi]
  have hdat : (Rows.laid_afflux_seal_nibbles : DataW Unit) = .agg (xs.map (·.1)) := by
    have := congrArg (·.1) hx1
    exact this
  have hn : (xs.map (·.1))[i]? = some (.lit (.int .u64 n)) := by
    rw [List.getElem?_map, List.getElem?_eq_getElem hxi, e2]; rfl
  have hall : ∀ j : Fin 16, (match (Rows.laid_afflux_seal_nibbles : DataW Unit) with | .agg l => l[j.val]? | _ => none) = some (.lit (.int .u64 (Crc.bv (Crc.nibs.getD j.val 0#64)))) := by
    intro j
    match j with
    | ⟨0, _⟩ => rfl
    | ⟨1, _⟩ => rfl
    | ⟨2, _⟩ => rfl
    | ⟨3, _⟩ => rfl
    | ⟨4, _⟩ => rfl
    | ⟨5, _⟩ => rfl
    | ⟨6, _⟩ => rfl
    | ⟨7, _⟩ => rfl
    | ⟨8, _⟩ => rfl
    | ⟨9, _⟩ => rfl
    | ⟨10, _⟩ => rfl
    | ⟨11, _⟩ => rfl
    | ⟨12, _⟩ => rfl
    | ⟨13, _⟩ => rfl
    | ⟨14, _⟩ => rfl
    | ⟨15, _⟩ => rfl
    | ⟨n + 16, h⟩ => exact absurd h (by omega)
  have h2 := hall ⟨i, hi⟩
  rw [hdat] at h2
  simp only at h2
  rw [hn] at h2
  have h3 := Option.some.inj h2
  have h4 := DataW.lit.inj h3
  have h5 := (Lit.int.inj h4).2
  rw [h5]
set_option maxRecDepth 100000 in
/-- The door's own heap meets the condition. -/
theorem door_met (os : Os) (args : Array Value) : laidMetH Tryz.prog [("afflux/seal.nibbles", Rows.laid_afflux_seal_nibbles)] ((World.doorLaid Tryz.prog 400 os).forCall (fun _ _ => 0) ⟨#[], args, []⟩).memory :=
  laidMetH_of_parts3 (fuel := 8) (laidMet_of_run' 8 (by kernel_rfl) (by kernel_rfl)) (by kernel_rfl) (by kernel_rfl)
end Go.Proofs.YtcbbdkennmopdaaGreatDoor
/- snap: Sweep; and what comes of no disk. -/
namespace Go.Proofs.YtcbbdkennmopdaaGreatDoor.PK
open Go.RowKit Go.Proofs.YtcbbdkennmopdaaGreatDoorW.PrintWords Go.Proofs.YtcbbdkennmopdaaGreatDoorW.PrintLast Go.Proofs.YtcbbdkennmopdaaGreatDoorW.PrintMore
open Go.Maps
theorem othersL_uses (but : ByteArray) : ∀ (l : List ByteArray) (s : DS) (n : Nat), (othersL but l s n).1.uses ≤ s.uses + (l.length : Int)
  | [], s, n => by show s.uses ≤ _; simp
  | x :: r, s, n => by
    unfold othersL
    have hu := deleteD_uses s x
    rw [List.length_cons]
    split
    · have := othersL_uses but r s n; omega
    · split
      · have := othersL_uses but r (deleteD s x).1 (n + 1); omega
      · show (deleteD s x).1.uses ≤ _
        omega
theorem othersL_cnt (but : ByteArray) : ∀ (l : List ByteArray) (s : DS) (n : Nat), 0 ≤ (othersL but l s n).2.1 ∧ (othersL but l s n).2.1 ≤ (n : Int) + (l.length : Int)
  | [], s, n => by show 0 ≤ (n : Int) ∧ (n : Int) ≤ _; simp
  | x :: r, s, n => by
    unfold othersL
    rw [List.length_cons]
    split
    · have := othersL_cnt but r s n; omega
    · split
      · have := othersL_cnt but r (deleteD s x).1 (n + 1); omega
      · show (0 : Int) ≤ 0 ∧ (0 : Int) ≤ _
        omega
theorem names_le {s : DS} (h : Good s) (fronts : List ByteArray) : (namesD s fronts).length ≤ 100 := by
  unfold namesD
  refine Nat.le_trans (List.length_filter_le _ _) ?_
  unfold namesF
  rw [List.length_map]
  exact h.count
theorem sweepD_eq (s : DS) : sweepD s = if (loadD s).2.2 = 0 then (if (othersD s (nameS (loadD s).1)).2.2 = 0 then (if (deleteD (othersD s (nameS (loadD s).1)).1 sFresh).2 = 0 then ((deleteD (othersD s (nameS (loadD s).1)).1 sFresh).1, (othersD s (nameS (loadD s).1)).2.1 + 1, 0) else if (deleteD (othersD s (nameS (loadD s).1)).1 sFresh).2 = 7 then ((deleteD (othersD s (nameS (loadD s).1)).1 sFresh).1, 0, 7) else ((deleteD (othersD s (nameS (loadD s).1)).1 sFresh).1, (othersD s (nameS (loadD s).1)).2.1, 0)) else ((othersD s (nameS (loadD s).1)).1, 0, (othersD s (nameS (loadD s).1)).2.2)) else (s, 0, (loadD s).2.2) := rfl
set_option maxHeartbeats 4000000 in
set_option maxRecDepth 100000 in
theorem Sweep_calls {w0 w : World} {g b : Nat} {s : DS} {K : Nat → Prop} (h : RunK w0 w g b s K) (hu : s.uses < 800000) (hT : SumW.Tab w0) : Calls Tryz.prog 18 #[.pointer (some ⟨g, 0, none⟩)] w (OthPost w0 w g b K (sweepD s)) := by
  have H0 := Aside0.mk h
  have HL := Aside0.mk (Load_calls h (hT.below h.bel hT.lt))
  unfold LoadPost at HL
  have HP : Aside0 (∀ e w' r, sweepD s = r → e = .returned (.tuple #[.int .i64 r.2.1, .int .i64 r.2.2]) → RunK w0 w' g b r.1 K → Held K w w' → OthPost w0 w g b K (sweepD s) e w') := ⟨fun e w' r hr h1 h2 h3 => by rw [hr]; exact ⟨h1, h2, h3⟩⟩
  have HSW := Aside0.mk (sweepD_eq s)
  have HOC : Aside0 (∀ but w1, Below w.heap.size w w1 → Calls Tryz.prog 69 #[.pointer (some ⟨g, 0, none⟩), .string but] w1 (OthPost w0 w1 g b K (othersD s but))) := ⟨fun but w1 hb => others_calls (h.below hb) (by omega) but⟩
  have HOU : Aside0 (∀ but, (othersD s but).1.uses ≤ s.uses + 100 ∧ 0 ≤ (othersD s but).2.1 ∧ (othersD s but).2.1 ≤ 100) := ⟨fun but => by
    have h1 := othersL_uses but (namesD s [sFront]) s 0
    have h2 := othersL_cnt but (namesD s [sFront]) s 0
    have h3 := names_le h.good.1 [sFront]
    unfold othersD
    exact ⟨by omega, h2.1, by omega⟩⟩
  clear h hT
  generalize loadD s = q at HL HSW
  obtain ⟨n, t, c⟩ := q
  dsimp only at HL HSW
  by_cases hc : c = 0
  · subst hc
    have HS2 : Aside0 (sweepD s = if (othersD s (nameS n)).2.2 = 0 then (if (deleteD (othersD s (nameS n)).1 sFresh).2 = 0 then ((deleteD (othersD s (nameS n)).1 sFresh).1, (othersD s (nameS n)).2.1 + 1, 0) else if (deleteD (othersD s (nameS n)).1 sFresh).2 = 7 then ((deleteD (othersD s (nameS n)).1 sFresh).1, 0, 7) else ((deleteD (othersD s (nameS n)).1 sFresh).1, (othersD s (nameS n)).2.1, 0)) else ((othersD s (nameS n)).1, 0, (othersD s (nameS n)).2.2)) := ⟨by rw [HSW.out, if_pos rfl]⟩
    have HO2 : Aside0 (∀ w1, Below w.heap.size w w1 → Calls Tryz.prog 69 #[.pointer (some ⟨g, 0, none⟩), .string (nameS n)] w1 (OthPost w0 w1 g b K (othersD s (nameS n)))) := ⟨fun w1 hb => HOC.out _ w1 hb⟩
    unfold OthPost at HO2
    have HU2 := Aside0.mk (HOU.out (nameS n))
    clear HSW HOC HOU
    generalize othersD s (nameS n) = o at HS2 HO2 HU2
    obtain ⟨s2, k, c2⟩ := o
    dsimp only at HS2 HO2 HU2
    by_cases hc2 : c2 = 0
    · subst hc2
      have HS3 : Aside0 (sweepD s = if (deleteD s2 sFresh).2 = 0 then ((deleteD s2 sFresh).1, k + 1, 0) else if (deleteD s2 sFresh).2 = 7 then ((deleteD s2 sFresh).1, 0, 7) else ((deleteD s2 sFresh).1, k, 0)) := ⟨by rw [HS2.out, if_pos rfl]⟩
      have HD : Aside0 (∀ w1, RunK w0 w1 g b s2 K → Calls Tryz.prog 79 #[.pointer (some ⟨g, 0, none⟩), .string ⟨#[109, 97, 114, 107, 46, 110, 101, 119]⟩] w1 fun e w' => e = .returned (.int .i64 (deleteD s2 sFresh).2) ∧ RunK w0 w' g b (deleteD s2 sFresh).1 K ∧ Held K w1 w') := ⟨fun w1 hr => delete_S hr (by have := HU2.out.1; omega) sFresh⟩
      have hk1 : IntKind.i64.wrap (k + 1) = k + 1 := by rw [IntKind.wrap_i64]; have := HU2.out; omega
      clear HS2
      generalize deleteD s2 sFresh = dl at HS3 HD
      obtain ⟨s3, c3⟩ := dl
      dsimp only at HS3 HD
      by_cases h30 : c3 = 0
      · subst h30
        have HS4 : Aside0 (sweepD s = (s3, k + 1, 0)) := ⟨by rw [HS3.out, if_pos rfl]⟩
        go_enter Tryz.func18, Tryz.ntmps18
        go_wp2_with fail
        refine HL.out.mono ?_
        rintro e w1 ⟨rfl, hb1⟩
        have HB1 := Aside0.mk hb1
        clear hb1
        go_wp2_with fail
        refine (Name_calls n w1).mono ?_
        rintro e w2 ⟨rfl, hb2⟩
        have HB2 := Aside0.mk (below_step HB1.out hb2)
        clear hb2
        go_wp2_with fail
        refine (HO2.out w2 HB2.out).mono ?_
        rintro e w3 ⟨rfl, hr3, hh3⟩
        have HR3 := Aside0.mk hr3
        have HH3 := Aside0.mk ((Held.below HB2.out H0.out.lt).trans hh3)
        clear hr3 hh3
        go_wp2_with fail
        refine (HD.out w3 HR3.out).mono ?_
        rintro e w4 ⟨rfl, hr4, hh4⟩
        have HR4 := Aside0.mk hr4
        have HH4 := Aside0.mk (HH3.out.trans hh4)
        clear hr4 hh4
        go_wp2_with fail
        go_ret2
        exact HP.out _ _ (s3, k + 1, 0) HS4.out rfl HR4.out HH4.out
      · by_cases h37 : c3 = 7
        · subst h37
          have HS4 : Aside0 (sweepD s = (s3, 0, 7)) := ⟨by rw [HS3.out, if_neg (by decide), if_pos rfl]⟩
          go_enter Tryz.func18, Tryz.ntmps18
          go_wp2_with fail
          refine HL.out.mono ?_
          rintro e w1 ⟨rfl, hb1⟩
          have HB1 := Aside0.mk hb1
          clear hb1
          go_wp2_with fail
          refine (Name_calls n w1).mono ?_
          rintro e w2 ⟨rfl, hb2⟩
          have HB2 := Aside0.mk (below_step HB1.out hb2)
          clear hb2
          go_wp2_with fail
          refine (HO2.out w2 HB2.out).mono ?_
          rintro e w3 ⟨rfl, hr3, hh3⟩
          have HR3 := Aside0.mk hr3
          have HH3 := Aside0.mk ((Held.below HB2.out H0.out.lt).trans hh3)
          clear hr3 hh3
          go_wp2_with fail
          refine (HD.out w3 HR3.out).mono ?_
          rintro e w4 ⟨rfl, hr4, hh4⟩
          have HR4 := Aside0.mk hr4
          have HH4 := Aside0.mk (HH3.out.trans hh4)
          clear hr4 hh4
          go_wp2_with fail
          go_ret2
          exact HP.out _ _ (s3, 0, 7) HS4.out rfl HR4.out HH4.out
        · have HS4 : Aside0 (sweepD s = (s3, k, 0)) := ⟨by rw [HS3.out, if_neg h30, if_neg h37]⟩
          go_enter Tryz.func18, Tryz.ntmps18
          go_wp2_with fail
          refine HL.out.mono ?_
          rintro e w1 ⟨rfl, hb1⟩
          have HB1 := Aside0.mk hb1
          clear hb1
          go_wp2_with fail
          refine (Name_calls n w1).mono ?_
          rintro e w2 ⟨rfl, hb2⟩
          have HB2 := Aside0.mk (below_step HB1.out hb2)
          clear hb2
          go_wp2_with fail
          refine (HO2.out w2 HB2.out).mono ?_
          rintro e w3 ⟨rfl, hr3, hh3⟩
          have HR3 := Aside0.mk hr3
          have HH3 := Aside0.mk ((Held.below HB2.out H0.out.lt).trans hh3)
          clear hr3 hh3
          go_wp2_with fail
          refine (HD.out w3 HR3.out).mono ?_
          rintro e w4 ⟨rfl, hr4, hh4⟩
          have HR4 := Aside0.mk hr4
          have HH4 := Aside0.mk (HH3.out.trans hh4)
          clear hr4 hh4
          go_wp2_with fail
          go_ret2
          exact HP.out _ _ (s3, k, 0) HS4.out rfl HR4.out HH4.out
    · have HS4 : Aside0 (sweepD s = (s2, 0, c2)) := ⟨by rw [HS2.out, if_neg hc2]⟩
      clear HS2
      go_enter Tryz.func18, Tryz.ntmps18
      go_wp2_with fail
      refine HL.out.mono ?_
      rintro e w1 ⟨rfl, hb1⟩
      have HB1 := Aside0.mk hb1
      clear hb1
      go_wp2_with fail
      refine (Name_calls n w1).mono ?_
      rintro e w2 ⟨rfl, hb2⟩
      have HB2 := Aside0.mk (below_step HB1.out hb2)
      clear hb2
      go_wp2_with fail
      refine (HO2.out w2 HB2.out).mono ?_
      rintro e w3 ⟨rfl, hr3, hh3⟩
      have HR3 := Aside0.mk hr3
      have HH3 := Aside0.mk ((Held.below HB2.out H0.out.lt).trans hh3)
      clear hr3 hh3
      go_wp2_with fail
      go_ret2
      exact HP.out _ _ (s2, 0, c2) HS4.out rfl HR3.out HH3.out
  · have HS4 : Aside0 (sweepD s = (s, 0, c)) := ⟨by rw [HSW.out, if_neg hc]⟩
    clear HSW
    go_enter Tryz.func18, Tryz.ntmps18
    go_wp2_with fail
    refine HL.out.mono ?_
    rintro e w1 ⟨rfl, hb1⟩
    have HB1 := Aside0.mk hb1
    clear hb1
    go_wp2_with fail
    go_ret2
    exact HP.out _ _ (s, 0, c) HS4.out rfl (H0.out.below HB1.out) (Held.below HB1.out H0.out.lt)
set_option maxRecDepth 100000 in
theorem Read_nil (name : ByteArray) (w : World) : Calls Tryz.prog 26 #[.pointer none, .string name] w fun e w' => e = .returned (.tuple #[.string ⟨#[]⟩, .int .i64 1]) ∧ w = w' := by
  go_enter Tryz.func26, Tryz.ntmps26
  go_wp2
  go_ret2
  exact ⟨rfl, rfl⟩
set_option maxRecDepth 100000 in
theorem Load_nil (w : World) : Calls Tryz.prog 17 #[.pointer none] w fun e w' => e = .returned (.tuple #[.int .i64 0, .string ⟨#[]⟩, .int .i64 1]) ∧ w = w' := by
  go_enter Tryz.func17, Tryz.ntmps17
  go_wp2_with fail
  refine (Read_nil _ w).mono ?_
  rintro e w1 ⟨rfl, rfl⟩
  go_wp2_with fail
  go_ret3
  exact ⟨rfl, rfl⟩
set_option maxRecDepth 100000 in
theorem Sweep_nil (w : World) : Calls Tryz.prog 18 #[.pointer none] w fun e w' => e = .returned (.tuple #[.int .i64 0, .int .i64 1]) ∧ w = w' := by
  go_enter Tryz.func18, Tryz.ntmps18
  go_wp2_with fail
  refine (Load_nil w).mono ?_
  rintro e w1 ⟨rfl, rfl⟩
  go_wp2_with fail
  go_ret2
  exact ⟨rfl, rfl⟩
set_option maxHeartbeats 1000000 in
set_option maxRecDepth 100000 in
theorem Save_nil (n : Int) (A : Option Addr) (c : Nat) (l : List ByteArray) (w : World) (hC : Kd.C Kd.string w A l.length l) (hc : l.length ≤ c) (hl : l.length ≤ 1000) (hs : sumS l ≤ 100000000) : Calls Tryz.prog 14 #[.pointer none, .int .i64 n, .slice A l.length c] w fun e w' => e = .returned (.int .i64 1) ∧ Below w.heap.size w w' := by
  obtain ⟨d, hd⟩ : ∃ d, d = catS l := ⟨_, rfl⟩
  obtain ⟨m, hm⟩ : ∃ m, m = l.length := ⟨_, rfl⟩
  have HJ : Aside0 (∀ w1, Below w.heap.size w w1 → Calls Tryz.prog 50 #[.slice A m c, .string ⟨#[]⟩] w1 fun e w' => e = .returned (.string d) ∧ Below w1.heap.size w1 w') := ⟨fun w1 hb => by rw [hm, hd]; exact strings_Join.calls A c l ⟨#[]⟩ (catS l) w1 (Kd.C_below hC hb) hc (join_cat l (by omega) (by omega))⟩
  rw [← hm]
  clear hd hC hc hl hs hm l
  go_enter Tryz.func14, Tryz.ntmps14
  go_wp2_with fail
  refine (HJ.out _ (below_alloc (below_alloc (Below.refl _ _) _) _)).mono ?_
  rintro e w1 ⟨rfl, hb1⟩
  go_upto_region 2 with fail
  have hp1 : Below w.heap.size w ((w.alloc (.cells #[.pointer none] 23)).alloc (.cells #[.int .i64 n] 3)) := below_alloc (below_alloc (Below.refl _ _) _) _
  have hz2 : ((w.alloc (.cells #[.pointer none] 23)).alloc (.cells #[.int .i64 n] 3)).heap.size = w.heap.size + 2 := by rw [alloc_size, alloc_size]
  have hbd : w1.heap[w.heap.size]? = some (.cells #[.pointer none] 23 (0, 0)) := by
    have hone : ∀ o : Obj, ((w.alloc (.cells #[.pointer none] 23)).alloc o).heap[w.heap.size]? = (w.alloc (.cells #[.pointer none] 23)).heap[w.heap.size]? := fun o => (below_alloc (Below.refl _ (w.alloc (.cells #[.pointer none] 23))) o).block _ (by rw [alloc_size]; exact Nat.lt_succ_self _)
    rw [hb1.block _ (by rw [hz2]; omega), hone]
    exact blk_new w _
  have hbi : w1.heap[w.heap.size + 1]? = some (.cells #[.int .i64 n] 3 (0, 0)) := by
    rw [hb1.block _ (by rw [hz2]; omega)]
    exact blk_new2 w _ _
  have hB1 : Below w.heap.size w w1 := below_step hp1 hb1
  have hba := below_alloc (Below.refl w1.heap.size w1) (.cells #[.string d] 9)
  have hbd2 := (hba.block _ (blk_lt hbd)).trans hbd
  have hbi2 := (hba.block _ (blk_lt hbi)).trans hbi
  have hB2 := below_step hB1 hba
  generalize w1.alloc (.cells #[.string d] 9) = wa at hbd2 hbi2 hB2 ⊢
  generalize w1.heap.size = ct
  clear hba hB1 hbi hbd hz2 hp1 hb1
  have hld := blk_cell hbi2 0
  simp only [List.getElem?_toArray, List.getElem?_cons_zero] at hld
  have HX := Aside0.mk hbd2
  have HB2 := Aside0.mk hB2
  clear hbd2 hbi2 hB2
  go_wp2_with fail
  refine (Name_calls n wa).mono ?_
  rintro e w2 ⟨rfl, hb2⟩
  go_upto_region 3 with fail
  have hba := below_alloc (Below.refl w2.heap.size w2) (.cells #[.string (nameS n)] 9)
  have hB3 := below_step (below_step HB2.out hb2) hba
  have hx3 := (hba.block _ (Nat.lt_of_lt_of_le (blk_lt HX.out) hb2.size)).trans ((hb2.block _ (blk_lt HX.out)).trans HX.out)
  generalize w2.alloc (.cells #[.string (nameS n)] 9) = wb at hx3 hB3 ⊢
  generalize w2.heap.size = cn
  have q1 := blk_cell hx3 0
  simp only [List.getElem?_toArray, List.getElem?_cons_zero] at q1
  have HB3 := Aside0.mk hB3
  clear hba hb2 hx3 hB3 hld HX HB2
  go_wp2_with fail
  go_ret
  exact ⟨rfl, HB3.out⟩
end Go.Proofs.YtcbbdkennmopdaaGreatDoor.PK
/- snap: the walk of SnapNone. -/
namespace Go.Proofs.YtcbbdkennmopdaaGreatDoor.PK
open Go.RowKit Go.Proofs.YtcbbdkennmopdaaGreatDoorW.PrintWords Go.Proofs.YtcbbdkennmopdaaGreatDoorW.PrintLast Go.Proofs.YtcbbdkennmopdaaGreatDoorW.PrintMore
open Go.Maps
def armed0 : DS := armD (newD 1000) 0
def offD : DS := (syncD armed0 [⟨#[120]⟩]).1
theorem off_off : offD.off = true := by decide
theorem off_uses : offD.uses < 800000 := by decide
theorem off_load : loadD offD = (0, sNone, 7) := load_off off_off
theorem off_sweep : sweepD offD = (offD, 0, 7) := by
  rw [sweepD_eq, off_load]
  rw [if_neg (by decide)]
theorem off_save (n : Int) (d : ByteArray) : saveD offD n d = (offD, if mayS n = true then 7 else 1) := by
  by_cases h : mayS n = true
  · rw [saveC_off h off_off, if_pos h]
  · rw [saveC_arg (by simpa using h), if_neg h]
theorem may_is (n : Int) : PR.affluxlaw26_may.f n = some (mayS n) := by
  unfold PR.affluxlaw26_may.f mayS
  by_cases h : n ≥ 0
  · rw [if_pos h, decide_eq_true (show 0 ≤ n from h), Bool.true_and]
  · rw [if_neg h, decide_eq_false (show ¬ 0 ≤ n from h), Bool.false_and]
set_option maxHeartbeats 4000000 in
set_option maxRecDepth 100000 in
theorem SnapNone_calls (n : Int) (s : ByteArray) (w : World) (hT : SumW.Tab w) : Calls Tryz.prog 4 #[.int .i64 n, .string s] w fun e w' => e = .returned (.bool true) ∧ Below w.heap.size w w' := by
  have HTT := Aside0.mk hT
  clear hT
  by_cases hbig : s.size ≤ 1000
  · have hng : ¬ ((s.size : Int) > 1000) := by omega
    have HSZ := Aside0.mk hbig
    have HNW : Aside0 (∀ w1, Below w.heap.size w w1 → Calls Tryz.prog 13 #[.int .i64 1000] w1 fun e w' => e = .returned (.pointer (some ⟨w1.heap.size + 1, 0, none⟩)) ∧ RunK w w' (w1.heap.size + 1) w1.heap.size (newD 1000) (fun _ => False)) := ⟨fun w1 hb => (new_S w w1 1000 (by decide) (by decide) hb (fun _ => False) (fun _ h => h.elim)).mono fun e w' hq => ⟨hq.1, hq.2.1⟩⟩
    clear hbig
    by_cases hmay : mayS n = true
    · have HMY := Aside0.mk hmay
      have HNM : Aside0 (nameS n = nameN n.toNat) := ⟨by unfold nameS; rw [if_pos hmay]⟩
      have hnz : (nameN n.toNat).toList.isEmpty = false := by
        rw [Bool.eq_false_iff]
        intro e
        rw [List.isEmpty_iff] at e
        have h9 := nameN_size n.toNat
        rw [ByteArray.toList_eq] at e
        have h8 : (nameN n.toNat).data.toList.length = (nameN n.toNat).size := toList_size _
        rw [e, h9] at h8
        cases h8
      clear hmay
      go_enter Tryz.func4, Tryz.ntmps4
      go_wp2_with fail
      refine (awake_calls w HTT.out).mono ?_
      rintro e w1 ⟨rfl, hb1⟩
      have HB1 := Aside0.mk hb1
      clear hb1
      go_wp2_with fail
      refine (Load_nil w1).mono ?_
      rintro e w2 ⟨rfl, rfl⟩
      go_wp2_with fail
      refine (Sweep_nil w1).mono ?_
      rintro e w2 ⟨rfl, rfl⟩
      go_wp2_with fail
      refine (HNW.out w1 HB1.out).mono ?_
      rintro e w2 ⟨rfl, hr2⟩
      generalize w1.heap.size + 1 = g at hr2 ⊢
      generalize w1.heap.size = b at hr2
      have HR2 := Aside0.mk hr2
      clear hr2
      go_wp2_with fail
      refine (arm_S HR2.out 0 (by decide)).mono ?_
      rintro e w3 ⟨rfl, hr3, _⟩
      have HR3 : Aside0 (RunK w w3 g b armed0 (fun _ => False)) := ⟨hr3⟩
      clear hr3
      go_wp2_with fail
      refine (sync_S HR3.out (by decide) ⟨#[120]⟩).mono ?_
      rintro e w4 ⟨rfl, hr4, _⟩
      have HR4 : Aside0 (RunK w w4 g b offD (fun _ => False)) := ⟨hr4⟩
      clear hr4
      go_wp2_with fail
      refine (Load_calls HR4.out (HTT.out.below HR4.out.bel HTT.out.lt)).mono ?_
      rintro e w5 ⟨rfl, hb5⟩
      rw [off_load]
      have HR5 := Aside0.mk (HR4.out.below hb5)
      clear hb5
      go_wp2_with fail
      refine (Sweep_calls HR5.out off_uses HTT.out).mono ?_
      rintro e w6 ⟨rfl, hr6, _⟩
      rw [off_sweep] at hr6 ⊢
      have HR6 := Aside0.mk hr6
      clear hr6
      go_wp2_with fail
      have h9 := Save_calls (HR6.out.below (below_alloc (Below.refl _ _) (.cells #[.string s] 9))) off_uses HTT.out n (some ⟨w6.heap.size, 0, none⟩) 1 [s] (strC_blk (blk_new w6 _) (by simp)) (by simp) (by simp) (by have := HSZ.out; show ([s].map (·.size)).sum ≤ _; simp; omega)
      rw [catS_one, off_save, HMY.out] at h9
      refine h9.mono ?_
      rintro e w7 ⟨rfl, hr7, _⟩
      have HR7 := Aside0.mk hr7
      clear hr7 h9
      simp only [if_true, if_false, Bool.false_eq_true]
      go_wp2_with fail
      refine (PR.affluxlaw26_may.calls n true w7 (by rw [may_is, HMY.out])).mono ?_
      rintro e w8 ⟨rfl, hd8⟩
      have HB8 := Aside0.mk (below_drawn HR7.out.bel hd8)
      clear hd8
      go_wp2_with fail
      refine (Save_nil n (some ⟨w8.heap.size, 0, none⟩) 1 [s] (w8.alloc (.cells #[.string s] 9)) (strC_blk (blk_new w8 _) (by simp)) (by simp) (by simp) (by have := HSZ.out; show ([s].map (·.size)).sum ≤ _; simp; omega)).mono ?_
      rintro e w9 ⟨rfl, hb9⟩
      have HB9 := Aside0.mk (below_step (below_step HB8.out (below_alloc (Below.refl _ _) _)) hb9)
      clear hb9
      go_wp2_with fail
      refine (Name_calls n w9).mono ?_
      rintro e w10 ⟨rfl, hb10⟩
      rw [HNM.out]
      have HB10 := Aside0.mk (below_step HB9.out hb10)
      clear hb10
      go_wp2_with fail
      refine (PR.affluxlaw26_may.calls n true w10 (by rw [may_is, HMY.out])).mono ?_
      rintro e w11 ⟨rfl, hd11⟩
      have HB11 := Aside0.mk (below_drawn HB10.out hd11)
      clear hd11
      go_wp2_with fail
      go_ret
      exact ⟨rfl, HB11.out⟩
    · have HMY : Aside0 (mayS n = false) := ⟨by simpa using hmay⟩
      have HNM : Aside0 (nameS n = ⟨#[]⟩) := ⟨by unfold nameS; rw [if_neg hmay]; rfl⟩
      clear hmay
      go_enter Tryz.func4, Tryz.ntmps4
      go_wp2_with fail
      refine (awake_calls w HTT.out).mono ?_
      rintro e w1 ⟨rfl, hb1⟩
      have HB1 := Aside0.mk hb1
      clear hb1
      go_wp2_with fail
      refine (Load_nil w1).mono ?_
      rintro e w2 ⟨rfl, rfl⟩
      go_wp2_with fail
      refine (Sweep_nil w1).mono ?_
      rintro e w2 ⟨rfl, rfl⟩
      go_wp2_with fail
      refine (HNW.out w1 HB1.out).mono ?_
      rintro e w2 ⟨rfl, hr2⟩
      generalize w1.heap.size + 1 = g at hr2 ⊢
      generalize w1.heap.size = b at hr2
      have HR2 := Aside0.mk hr2
      clear hr2
      go_wp2_with fail
      refine (arm_S HR2.out 0 (by decide)).mono ?_
      rintro e w3 ⟨rfl, hr3, _⟩
      have HR3 : Aside0 (RunK w w3 g b armed0 (fun _ => False)) := ⟨hr3⟩
      clear hr3
      go_wp2_with fail
      refine (sync_S HR3.out (by decide) ⟨#[120]⟩).mono ?_
      rintro e w4 ⟨rfl, hr4, _⟩
      have HR4 : Aside0 (RunK w w4 g b offD (fun _ => False)) := ⟨hr4⟩
      clear hr4
      go_wp2_with fail
      refine (Load_calls HR4.out (HTT.out.below HR4.out.bel HTT.out.lt)).mono ?_
      rintro e w5 ⟨rfl, hb5⟩
      rw [off_load]
      have HR5 := Aside0.mk (HR4.out.below hb5)
      clear hb5
      go_wp2_with fail
      refine (Sweep_calls HR5.out off_uses HTT.out).mono ?_
      rintro e w6 ⟨rfl, hr6, _⟩
      rw [off_sweep] at hr6 ⊢
      have HR6 := Aside0.mk hr6
      clear hr6
      go_wp2_with fail
      have h9 := Save_calls (HR6.out.below (below_alloc (Below.refl _ _) (.cells #[.string s] 9))) off_uses HTT.out n (some ⟨w6.heap.size, 0, none⟩) 1 [s] (strC_blk (blk_new w6 _) (by simp)) (by simp) (by simp) (by have := HSZ.out; show ([s].map (·.size)).sum ≤ _; simp; omega)
      rw [catS_one, off_save, HMY.out] at h9
      refine h9.mono ?_
      rintro e w7 ⟨rfl, hr7, _⟩
      have HR7 := Aside0.mk hr7
      clear hr7 h9
      simp only [if_true, if_false, Bool.false_eq_true]
      go_wp2_with fail
      refine (PR.affluxlaw26_may.calls n false w7 (by rw [may_is, HMY.out])).mono ?_
      rintro e w8 ⟨rfl, hd8⟩
      have HB8 := Aside0.mk (below_drawn HR7.out.bel hd8)
      clear hd8
      go_wp2_with fail
      refine (Save_nil n (some ⟨w8.heap.size, 0, none⟩) 1 [s] (w8.alloc (.cells #[.string s] 9)) (strC_blk (blk_new w8 _) (by simp)) (by simp) (by simp) (by have := HSZ.out; show ([s].map (·.size)).sum ≤ _; simp; omega)).mono ?_
      rintro e w9 ⟨rfl, hb9⟩
      have HB9 := Aside0.mk (below_step (below_step HB8.out (below_alloc (Below.refl _ _) _)) hb9)
      clear hb9
      go_wp2_with fail
      refine (Name_calls n w9).mono ?_
      rintro e w10 ⟨rfl, hb10⟩
      rw [HNM.out]
      have HB10 := Aside0.mk (below_step HB9.out hb10)
      clear hb10
      go_wp2_with fail
      refine (PR.affluxlaw26_may.calls n false w10 (by rw [may_is, HMY.out])).mono ?_
      rintro e w11 ⟨rfl, hd11⟩
      have HB11 := Aside0.mk (below_drawn HB10.out hd11)
      clear hd11
      go_wp2_with fail
      go_ret
      exact ⟨rfl, HB11.out⟩
  · have hg : (s.size : Int) > 1000 := by omega
    clear hbig
    go_enter Tryz.func4, Tryz.ntmps4
    go_wp2_with fail
    refine (awake_calls w HTT.out).mono ?_
    rintro e w1 ⟨rfl, hb1⟩
    have HB1 := Aside0.mk hb1
    clear hb1
    go_wp2_with fail
    go_ret
    exact ⟨rfl, HB1.out⟩
end Go.Proofs.YtcbbdkennmopdaaGreatDoor.PK
